/-
  Parts of the proofs of the laws: the executor, what functions of the program compute, and that it is what the statements ask. No premise.
-/
import Derived.Test.YtaeagjnpobdglaaGreatVPdi6
set_option linter.unusedVariables false
set_option linter.unusedSimpArgs false
set_option maxHeartbeats 4000000
open Int (toNat)
namespace Go.Proofs.YtaeagjnpobdglaaGreat
open Go.Proofs Go.Aw Go.RowKit
set_option maxRecDepth 100000
def uE (w:Int)(q:PN)(X:P3):Prop:=∃i j k:Int,0≤i∧0≤j∧0≤k∧i+j+k=w∧X.1=i*q.1.1+j*q.2.1.1+k*q.2.2.1∧X.2.1=i*q.1.2.1+j*q.2.1.2.1+k*q.2.2.2.1∧X.2.2=i*q.1.2.2+j*q.2.1.2.2+k*q.2.2.2.2
theorem aHm {w v:Int} {q:PN} {X Y:P3} (h:uE w q X)(h':uE v q Y):uE (w+v) q (ad X Y):=by
 obtain⟨i,j,k,a1,a2,a3,a4,a5,a6,a7⟩:=h
 obtain⟨i',j',k',b1,b2,b3,b4,b5,b6,b7⟩:=h'
 refine⟨i+i',j+j',k+k',by omega,by omega,by omega,by omega,?_,?_,?_⟩
 · simp only [ad];rw [a5,b5];grind
 · simp only [ad];rw [a6,b6];grind
 · simp only [ad];rw [a7,b7];grind
theorem aJd:∀(d:Nat) {m:Int} {q b:PN},bdP m q→m*2 ^ d≤100000→0≤m→b∈aR d q→uE (2 ^ d) q b.1∧uE (2 ^ d) q b.2.1∧uE (2 ^ d) q b.2.2
 | 0,m,q,b,h,_,_,hx=>by
   simp only [aR,List.mem_singleton] at hx
   subst hx
   exact⟨⟨1,0,0,by simp,by simp,by simp,by simp,by simp,by simp,by simp⟩,⟨0,1,0,by simp,by simp,by simp,by simp,by simp,by simp,by simp⟩,⟨0,0,1,by simp,by simp,by simp,by simp,by simp,by simp,by simp⟩⟩
 | d+1,m,q,b,h,hm,h0,hx=>by
   rw [fZ,List.mem_flatMap] at hx
   obtain⟨y,hy,hx⟩:=hx
   have hp:(0:Int) < 2 ^ d:=Int.pow_pos (by omega)
   have hle:m*2 ^ d≤m*2 ^ (d+1):=Int.mul_le_mul_of_nonneg_left (by rw [Int.pow_succ];omega) h0
   have hb:=vH d h (by omega) h0 hy
   obtain⟨i1,i2,i3⟩:=aJd d h (by omega) h0 hy
   obtain⟨a1,b1,a2,b2,a3,b3,h1,k1,h2,k2,h3,k3,rfl⟩:=aUw (hb.mono (by omega)) hx
   have key:∀a:P3,(a=y.1∨a=y.2.1∨a=y.2.2)→uE (2 ^ d) q a:=fun a ha=>by rcases ha with rfl | rfl | rfl<;>assumption
   have e:(2:Int) ^ (d+1)=2 ^ d+2 ^ d:=by rw [Int.pow_succ];omega
   rw [e]
   exact⟨aHm (key _ h1) (key _ k1),aHm (key _ h2) (key _ k2),aHm (key _ h3) (key _ k3)⟩
theorem aNu {q b:PN} {d:Int} (hq:bdP 64 q)(hd:0≤d∧d≤3)(hb:b∈aR d.toNat q):uE (sc d) q b.1∧uE (sc d) q b.2.1∧uE (sc d) q b.2.2:=by
 rcases d4 hd with rfl | rfl | rfl | rfl<;>exact aJd (m:=64) _ hq (by decide) (by decide) hb
theorem cau (i j k u v t:Int)(hi:0≤i)(hj:0≤j)(hk:0≤k):(i*u+j*v+k*t)*(i*u+j*v+k*t)≤(i+j+k)*(i*(u*u)+j*(v*v)+k*(t*t)):=by
 have h1:=Int.mul_nonneg (Int.mul_nonneg hi hj) (jA (u - v))
 have h2:=Int.mul_nonneg (Int.mul_nonneg hi hk) (jA (u - t))
 have h3:=Int.mul_nonneg (Int.mul_nonneg hj hk) (jA (v - t))
 have e:(i+j+k)*(i*(u*u)+j*(v*v)+k*(t*t)) - (i*u+j*v+k*t)*(i*u+j*v+k*t)=i*j*((u - v)*(u - v))+i*k*((u - t)*(u - t))+j*k*((v - t)*(v - t)):=by grind
 omega
theorem aNv {w M:Int} {q:PN} {X Z:P3} (hw:1≤w)(h:uE w q X)(h1:ds (tm w q.1) Z≤M)(h2:ds (tm w q.2.1) Z≤M)(h3:ds (tm w q.2.2) Z≤M):ds X Z≤M:=by
 obtain⟨i,j,k,a1,a2,a3,a4,a5,a6,a7⟩:=h
 have c1:=cau i j k (w*q.1.1 - Z.1) (w*q.2.1.1 - Z.1) (w*q.2.2.1 - Z.1) a1 a2 a3
 have c2:=cau i j k (w*q.1.2.1 - Z.2.1) (w*q.2.1.2.1 - Z.2.1) (w*q.2.2.2.1 - Z.2.1) a1 a2 a3
 have c3:=cau i j k (w*q.1.2.2 - Z.2.2) (w*q.2.1.2.2 - Z.2.2) (w*q.2.2.2.2 - Z.2.2) a1 a2 a3
 rw [a4] at c1 c2 c3
 have f1:i*(w*q.1.1 - Z.1)+j*(w*q.2.1.1 - Z.1)+k*(w*q.2.2.1 - Z.1)=w*(X.1 - Z.1):=by rw [a5];subst a4;grind
 have f2:i*(w*q.1.2.1 - Z.2.1)+j*(w*q.2.1.2.1 - Z.2.1)+k*(w*q.2.2.2.1 - Z.2.1)=w*(X.2.1 - Z.2.1):=by rw [a6];subst a4;grind
 have f3:i*(w*q.1.2.2 - Z.2.2)+j*(w*q.2.1.2.2 - Z.2.2)+k*(w*q.2.2.2.2 - Z.2.2)=w*(X.2.2 - Z.2.2):=by rw [a7];subst a4;grind
 rw [f1] at c1;rw [f2] at c2;rw [f3] at c3
 have g1:=Int.mul_le_mul_of_nonneg_left h1 a1;have g2:=Int.mul_le_mul_of_nonneg_left h2 a2;have g3:=Int.mul_le_mul_of_nonneg_left h3 a3
 have e:w*w*ds X Z≤w*w*M:=by
   have e1:w*w*ds X Z=w*(X.1 - Z.1)*(w*(X.1 - Z.1))+w*(X.2.1 - Z.2.1)*(w*(X.2.1 - Z.2.1))+w*(X.2.2 - Z.2.2)*(w*(X.2.2 - Z.2.2)):=by unfold ds dt sb;grind
   have e2:w*(i*ds (tm w q.1) Z+j*ds (tm w q.2.1) Z+k*ds (tm w q.2.2) Z)=w*(i*((w*q.1.1 - Z.1)*(w*q.1.1 - Z.1))+j*((w*q.2.1.1 - Z.1)*(w*q.2.1.1 - Z.1))+k*((w*q.2.2.1 - Z.1)*(w*q.2.2.1 - Z.1)))+w*(i*((w*q.1.2.1 - Z.2.1)*(w*q.1.2.1 - Z.2.1))+j*((w*q.2.1.2.1 - Z.2.1)*(w*q.2.1.2.1 - Z.2.1))+k*((w*q.2.2.2.1 - Z.2.1)*(w*q.2.2.2.1 - Z.2.1)))+w*(i*((w*q.1.2.2 - Z.2.2)*(w*q.1.2.2 - Z.2.2))+j*((w*q.2.1.2.2 - Z.2.2)*(w*q.2.1.2.2 - Z.2.2))+k*((w*q.2.2.2.2 - Z.2.2)*(w*q.2.2.2.2 - Z.2.2))):=by unfold ds dt sb tm;grind
   have e3:w*(i*ds (tm w q.1) Z+j*ds (tm w q.2.1) Z+k*ds (tm w q.2.2) Z)≤w*(i*M+j*M+k*M):=Int.mul_le_mul_of_nonneg_left (by omega) (by omega)
   have e4:w*(i*M+j*M+k*M)=w*w*M:=by
     rw [show i*M+j*M+k*M=(i+j+k)*M by grind,a4];grind
   omega
 exact Int.le_of_mul_le_mul_left e (Int.mul_pos (by omega) (by omega))
theorem aL2 {w M lo:Int} {A B C i j k:Int} (hi:0≤i)(hj:0≤j)(hk:0≤k)(hw:i+j+k=w)(hw1:1≤w)(h1:w*A≤M∧lo≤w*A)(h2:w*B≤M∧lo≤w*B)(h3:w*C≤M∧lo≤w*C):lo≤i*A+j*B+k*C∧i*A+j*B+k*C≤M:=by
 have e:w*(i*A+j*B+k*C)=i*(w*A)+j*(w*B)+k*(w*C):=by grind
 have l1:=Int.mul_le_mul_of_nonneg_left h1.1 hi;have l2:=Int.mul_le_mul_of_nonneg_left h2.1 hj;have l3:=Int.mul_le_mul_of_nonneg_left h3.1 hk
 have m1:=Int.mul_le_mul_of_nonneg_left h1.2 hi;have m2:=Int.mul_le_mul_of_nonneg_left h2.2 hj;have m3:=Int.mul_le_mul_of_nonneg_left h3.2 hk
 have e1:i*M+j*M+k*M=w*M:=by rw [←hw];grind
 have e2:i*lo+j*lo+k*lo=w*lo:=by rw [←hw];grind
 exact⟨Int.le_of_mul_le_mul_left (a:=w) (by omega) (by omega),Int.le_of_mul_le_mul_left (a:=w) (by omega) (by omega)⟩
theorem aDd {w:Int} {q:PN} {X:P3} (hw:1≤w)(h:uE w q X):((oN (lI w q)).1≤X.1∧X.1≤(oO (lI w q)).1)∧((oN (lI w q)).2.1≤X.2.1∧X.2.1≤(oO (lI w q)).2.1)∧((oN (lI w q)).2.2≤X.2.2∧X.2.2≤(oO (lI w q)).2.2):=by
 obtain⟨i,j,k,a1,a2,a3,a4,a5,a6,a7⟩:=h
 have i1:=in3 (c:=lI w q) (a:=tm w q.1) (Or.inl rfl);have i2:=in3 (c:=lI w q) (a:=tm w q.2.1) (Or.inr (Or.inl rfl));have i3:=in3 (c:=lI w q) (a:=tm w q.2.2) (Or.inr (Or.inr rfl))
 simp only [tm] at i1 i2 i3
 rw [a5,a6,a7]
 exact⟨aL2 a1 a2 a3 a4 hw ⟨i1.2.1,i1.1⟩ ⟨i2.2.1,i2.1⟩ ⟨i3.2.1,i3.1⟩,aL2 a1 a2 a3 a4 hw ⟨i1.2.2.2.1,i1.2.2.1⟩ ⟨i2.2.2.2.1,i2.2.2.1⟩ ⟨i3.2.2.2.1,i3.2.2.1⟩,aL2 a1 a2 a3 a4 hw ⟨i1.2.2.2.2.2,i1.2.2.2.2.1⟩ ⟨i2.2.2.2.2.2,i2.2.2.2.2.1⟩ ⟨i3.2.2.2.2.2,i3.2.2.2.2.1⟩⟩
theorem aVy (c q:PN) {a b:P3} (ha:a=c.1∨a=c.2.1∨a=c.2.2)(hb:b=q.1∨b=q.2.1∨b=q.2.2):ds a b≤fa3 c q:=by
 unfold fa3
 have t1:=fun m (h:ds a b≤m) (n:Int)=>Int.le_trans h (dG m n)
 rcases ha with rfl | rfl | rfl<;>rcases hb with rfl | rfl | rfl<;>first | exact kO _ _ | (refine Int.le_trans ?_ (dG _ _);first | exact kO _ _ | (refine Int.le_trans ?_ (dG _ _);first | exact kO _ _ | (refine Int.le_trans ?_ (dG _ _);first | exact kO _ _ | (refine Int.le_trans ?_ (dG _ _);first | exact kO _ _ | (refine Int.le_trans ?_ (dG _ _);first | exact kO _ _ | (refine Int.le_trans ?_ (dG _ _);first | exact kO _ _ | (refine Int.le_trans ?_ (dG _ _);first | exact kO _ _ | (refine Int.le_trans ?_ (dG _ _);exact kO _ _))))))))
section
variable {q a b : PN} {d : Int}
theorem aTe (hq:bdP 64 q)(hd:0≤d∧d≤3)(hb:b∈aR d.toNat q):uI a (lI (sc d) q)≤uI a b:=by
 obtain⟨h1,h2,h3⟩:=aNu hq hd hb
 have hw:=(aMz d).1
 have x1:=aDd hw h1;have x2:=aDd hw h2;have x3:=aDd hw h3
 have key:∀u v w m:Int,m≤u→m≤v→m≤w→m≤zU u v w:=fun u v w m e1 e2 e3=>by rcases aF7 u v w with e | e | e<;>rw [e]<;>assumption
 have key2:∀u v w m:Int,u≤m→v≤m→w≤m→zV u v w≤m:=fun u v w m e1 e2 e3=>by rcases aF8 u v w with e | e | e<;>rw [e]<;>assumption
 have gm:∀e f l h l' h':Int,l≤l'→h'≤h→gp e f l h*gp e f l h≤gp e f l' h'*gp e f l' h':=by
   intro e f l h l' h' e1 e2
   have:gp e f l h≤gp e f l' h':=by unfold gp mx;(repeat' split)<;>omega
   exact Int.mul_le_mul this this (aB3 _ _ _ _) (aB3 _ _ _ _)
 have g1:=gm (oN a).1 (oO a).1 _ _ _ _ (key _ _ _ _ x1.1.1 x2.1.1 x3.1.1) (key2 _ _ _ _ x1.1.2 x2.1.2 x3.1.2)
 have g2:=gm (oN a).2.1 (oO a).2.1 _ _ _ _ (key _ _ _ _ x1.2.1.1 x2.2.1.1 x3.2.1.1) (key2 _ _ _ _ x1.2.1.2 x2.2.1.2 x3.2.1.2)
 have g3:=gm (oN a).2.2 (oO a).2.2 _ _ _ _ (key _ _ _ _ x1.2.2.1 x2.2.2.1 x3.2.2.1) (key2 _ _ _ _ x1.2.2.2 x2.2.2.2 x3.2.2.2)
 exact Int.add_le_add (Int.add_le_add g1 g2) g3
end
def fE (d:Int):Int:=sc (2 - d)
theorem aHn {d:Int} (h:0≤d∧d≤2):fE d*sc d=4∧1≤fE d∧fE d≤4:=by
 have:d=0∨d=1∨d=2:=by omega
 rcases this with rfl | rfl | rfl<;>decide
noncomputable def aHo (d R:Int)(w:Rat)(c:PN):CapT.Tri:=⟨tm (fE d) c.1,tm (fE d) c.2.1,tm (fE d) c.2.2,w,(c,R)⟩
noncomputable def chs (d:Int)(L:List (PN×Int)):List CapT.Tri:=L.flatMap fun e=>(aR d.toNat e.1).map (aHo d (bX e.1 d) ((e.2:Int):Rat))
def uu:Rat:=1 / 4194304
theorem aTf:uu*uu*17592186044416=1:=by unfold uu;decide +kernel
theorem aDe:0 < uu:=by unfold uu;decide +kernel
theorem qS {α:Type} (g:α→Int):∀l:List α,CapT.ls l (fun a=>((g a:Int):Rat))=(((l.map g).sum:Int):Rat)
 | []=>rfl
 | a::l=>by rw [CapT.ls,qS g l,List.map_cons,List.sum_cons,CapT.rcast_add]
theorem mT {d:Int} {L:List (PN×Int)} {t:CapT.Tri} (h:t∈chs d L):∃e,e∈L∧∃c,c∈aR d.toNat e.1∧t=aHo d (bX e.1 d) ((e.2:Int):Rat) c:=by
 obtain⟨e,he,h⟩:=List.mem_flatMap.1 h
 obtain⟨c,hc,rfl⟩:=List.mem_map.1 h
 exact⟨e,he,c,hc,rfl⟩
theorem aHp {d:Int} {L:List (PN×Int)} (f:CapT.Tri→Rat):CapT.ls (chs d L) f=CapT.ls L (fun e=>CapT.ls (aR d.toNat e.1) (fun c=>f (aHo d (bX e.1 d) ((e.2:Int):Rat) c))):=by
 unfold chs
 rw [CapT.ls_flat]
 refine CapT.ls_congr (fun e _=>?_)
 rw [CapT.ls_map]
def nI (L:List (PN×Int)):Int:=(L.map (·.2)).sum
theorem aHq {d:Int} (hd:0≤d∧d≤2)(L:List (PN×Int)):CapT.tot (chs d L)=((sc d*sc d*nI L:Int):Rat):=by
 unfold CapT.tot
 rw [aHp]
 have h1:CapT.ls L (fun e=>CapT.ls (aR d.toNat e.1) (fun c=>(aHo d (bX e.1 d) ((e.2:Int):Rat) c).q))=CapT.ls L (fun e=>((sc d*sc d:Int):Rat)*((e.2:Int):Rat)):=by
   refine CapT.ls_congr (fun e _=>?_)
   have hl:=mM (d:=d) (by omega) e.1
   show CapT.ls (aR d.toNat e.1) (fun _=>((e.2:Int):Rat))=_
   rw [←hl]
   clear hl
   generalize aR d.toNat e.1=l
   induction l with
   | nil=>show(0:Rat)=_;rw [show(((([]:List PN).length:Nat):Int):Rat)=0 from rfl];grind
   | cons c l ih =>
     rw [CapT.ls,ih,List.length_cons,show((l.length+1:Nat):Int)=(l.length:Int)+1 by omega,CapT.rcast_add]
     rw [show((1:Int):Rat)=1 from rfl]
     grind
 rw [h1,CapT.ls_mul,qS (fun e:PN×Int=>e.2),←CapT.rcast_mul]
 rfl
noncomputable def aDy (d:Int)(L:List (PN×Int)):Int:=(L.map fun e'=>((aR d.toNat e'.1).map fun b=>e'.2*(L.map fun e=>((aR d.toNat e.1).map fun c=>e.2*sD (bX e.1 d) d b c).sum).sum).sum).sum
noncomputable def PLs (d:Int)(L:List (PN×Int))(p:PN):Int:=(L.map fun e=>((aR d.toNat e.1).map fun c=>e.2*bLo d (lI (sc d) p) c).sum).sum
noncomputable def hcap (d:Int)(t t':CapT.Tri):Rat:=((sD t.o.2 d t'.o.1 t.o.1:Int):Rat)*uu
theorem bDq (d:Int)(L:List (PN×Int)):CapT.ls (chs d L) (fun t'=>t'.q*CapT.ls (chs d L) (fun t=>t.q*hcap d t t'))=((aDy d L:Int):Rat)*uu:=by
 have inner:∀t':CapT.Tri,CapT.ls (chs d L) (fun t=>t.q*hcap d t t')=uu*(((L.map fun e=>((aR d.toNat e.1).map fun c=>e.2*sD (bX e.1 d) d t'.o.1 c).sum).sum:Int):Rat):=by
   intro t'
   rw [aHp,←qS,←CapT.ls_mul]
   refine CapT.ls_congr (fun e _=>?_)
   rw [←qS,←CapT.ls_mul]
   refine CapT.ls_congr (fun c _=>?_)
   rw [CapT.rcast_mul]
   show((e.2:Int):Rat)*(((sD (bX e.1 d) d t'.o.1 c:Int):Rat)*uu)=_
   grind
 rw [aHp]
 unfold aDy
 have e2:∀x:Rat,x*uu=uu*x:=fun x=>by grind
 rw [e2,←qS,←CapT.ls_mul]
 refine CapT.ls_congr (fun e' _=>?_)
 rw [←qS,←CapT.ls_mul]
 refine CapT.ls_congr (fun b _=>?_)
 rw [inner,CapT.rcast_mul]
 have hx:∀x y:Rat,x*(uu*y)=uu*(x*y):=fun x y=>by grind
 exact hx _ _
theorem bFa (d:Int)(L:List (PN×Int))(p:PN):CapT.ls (chs d L) (fun s=>s.q*(((bLo d (lI (sc d) p) s.o.1:Int):Rat)*uu))=((PLs d L p:Int):Rat)*uu:=by
 rw [aHp]
 unfold PLs
 have e2:∀x:Rat,x*uu=uu*x:=fun x=>by grind
 rw [e2,←qS,←CapT.ls_mul]
 refine CapT.ls_congr (fun e _=>?_)
 rw [←qS,←CapT.ls_mul]
 refine CapT.ls_congr (fun c _=>?_)
 rw [CapT.rcast_mul]
 show((e.2:Int):Rat)*(((bLo d (lI (sc d) p) c:Int):Rat)*uu)=_
 grind
theorem aL3 {d R:Int} (hd:0≤d∧d≤2) {w:Rat} {p c:PN} (hp:vp p=0)(hc:c∈aR d.toNat p):CapT.tin (2048:Nat) (aHo d R w c):=by
 have h1:=oP (gE hp).1 (by omega) hc
 have h2:=aHn hd
 have key:∀x:P3,bd 512 x→CapT.inb ((2048:Nat):Int) (tm (fE d) x):=by
   intro x hx
   have a1:=bD (a:=4) (b:=512) (x:=fE d) (y:=x.1) (by omega) hx.1
   have a2:=bD (a:=4) (b:=512) (x:=fE d) (y:=x.2.1) (by omega) hx.2.1
   have a3:=bD (a:=4) (b:=512) (x:=fE d) (y:=x.2.2) (by omega) hx.2.2
   unfold CapT.inb tm
   simp only
   omega
 exact⟨key _ h1.1,key _ h1.2.1,key _ h1.2.2⟩
theorem bDr {H F:Int} (h:17592186044416≤H*H*F):1≤((H:Int):Rat)*uu*(((H:Int):Rat)*uu)*((F:Int):Rat):=by
 have h1:=CapT.rcast_le h
 rw [CapT.rcast_mul,CapT.rcast_mul] at h1
 have h2:=CapT.rmul_le' h1 (CapT.sq_nonneg uu)
 have h3:uu*uu*((17592186044416:Int):Rat)=1:=aTf
 rw [h3] at h2
 grind
theorem aZq {H F:Int} (h:H*H*F≤17592186044416):((H:Int):Rat)*uu*(((H:Int):Rat)*uu)*((F:Int):Rat)≤1:=by
 have h1:=CapT.rcast_le h
 rw [CapT.rcast_mul,CapT.rcast_mul] at h1
 have h2:=CapT.rmul_le' h1 (CapT.sq_nonneg uu)
 have h3:uu*uu*((17592186044416:Int):Rat)=1:=aTf
 rw [h3] at h2
 grind
theorem aWw {d:Int} (hd:0≤d∧d≤2):NN (sc d)*(fE d*fE d)=17592186044416:=by
 have:d=0∨d=1∨d=2:=by omega
 rcases this with rfl | rfl | rfl<;>decide
theorem aTg (g a b c x y z:Int)(hg:0≤g):CapT.gapc (g*x) (g*y) (g*z) (g*a) (g*b) (g*c) (g*gp (zU a b c) (zV a b c) (zU x y z) (zV x y z)):=by
 have l1:=lW a b c;have l2:=lW x y z
 have h1:=lX a b c;have h2:=lX x y z
 have hm:∀u v w:Int,u+w≤v→g*u+g*w≤g*v:=by
   intro u v w h
   have:=Int.mul_le_mul_of_nonneg_left h hg
   rw [Int.mul_add] at this
   exact this
 have hc:gp (zU a b c) (zV a b c) (zU x y z) (zV x y z)=0∨gp (zU a b c) (zV a b c) (zU x y z) (zV x y z)=zU x y z - zV a b c∨gp (zU a b c) (zV a b c) (zU x y z) (zV x y z)=zU a b c - zV x y z:=by
   unfold gp mx;repeat' split
   all_goals omega
 generalize gp (zU a b c) (zV a b c) (zU x y z) (zV x y z)=G at *
 unfold CapT.gapc
 rcases hc with hc | hc | hc
 · left;rw [hc,Int.mul_zero]
 · right;right
   intro p hp q hq
   simp only [List.mem_cons,List.not_mem_nil,or_false] at hp hq
   rcases hp with rfl | rfl | rfl<;>rcases hq with rfl | rfl | rfl<;>exact hm _ _ _ (by omega)
 · right;left
   intro p hp q hq
   simp only [List.mem_cons,List.not_mem_nil,or_false] at hp hq
   rcases hp with rfl | rfl | rfl<;>rcases hq with rfl | rfl | rfl<;>exact hm _ _ _ (by omega)
theorem aVz {p:PN} {d:Int} (hp:vp p=0)(hd:0≤d∧d≤3):∃r,1≤r∧r*r≤dt (lG p) (lG p)∧sC d≤bX p d*bX p d*(128*r)∧1≤bX p d:=by
 obtain⟨r,hr,r1,r2,hu,hb⟩:=vO hp hd
 have ht:=aKk d
 obtain⟨c1,_⟩:=qL (t:=sC d) (b:=128*r) (by omega)
 have c2:=Int.mul_le_mul_of_nonneg_right hu.2.1 (show 0≤128*r by omega)
 refine⟨r,r1,hr.2.1,Int.le_trans c1 c2,?_⟩
 rcases Int.lt_or_le 0 (bX p d) with h | h
 · exact h
 · have h0:bX p d=0:=Int.le_antisymm h hu.1
   rw [h0] at c2
   omega
theorem aZr {d:Int} (hd:0≤d∧d≤2):sC d*(fE d*fE d)=3217*17592186044416:=by
 have:d=0∨d=1∨d=2:=by omega
 rcases this with rfl | rfl | rfl<;>decide
theorem aJe {d:Int} (hd:0≤d∧d≤2) {L:List (PN×Int)} (hL:∀e∈L,vp e.1=0∧0≤e.2):∀t,t∈chs d L→∀t',t'∈chs d L→0 < hcap d t t'∧((∃f:Int,1≤f∧1≤hcap d t t'*hcap d t t'*(f:Rat)∧CapT.nearT t' t f)∨CapT.rimT t (hcap d t t')):=by
 intro t ht t' ht'
 obtain⟨e,he,c,hc,rfl⟩:=mT ht
 obtain⟨e',he',b,hb,rfl⟩:=mT ht'
 have hp:=(hL e he).1
 have hg:=aHn hd
 obtain⟨r,r1,r2,r3,R1⟩:=aVz hp (d:=d) (by omega)
 have hb1:=aWw hd
 show 0 < ((sD (bX e.1 d) d b c:Int):Rat)*uu∧((∃f:Int,1≤f∧1≤((sD (bX e.1 d) d b c:Int):Rat)*uu*(((sD (bX e.1 d) d b c:Int):Rat)*uu)*(f:Rat)∧CapT.nearT _ _ f)∨CapT.rimT _ (((sD (bX e.1 d) d b c:Int):Rat)*uu))
 have rimcase:CapT.rimT (aHo d (bX e.1 d) ((e.2:Int):Rat) c) (((bX e.1 d:Int):Rat)*uu):=by
   have hn:=aKp (gE hp).1 (d:=d) (by omega) hc
   have hrr:1≤r*(fE d*fE d):=by
     have:=Int.mul_le_mul (a:=1) (b:=1) (c:=r) (d:=fE d*fE d) r1 (by have:=Int.mul_le_mul (a:=1) (b:=1) (c:=fE d) (d:=fE d) hg.2.1 hg.2.1 (by omega) (by omega);omega) (by omega) (by omega)
     omega
   refine⟨toNat (r*(fE d*fE d)),by omega,?_,?_,?_⟩
   · rw [Int.toNat_of_nonneg (by omega)]
     have e1:CapT.nsq (CapT.cr (CapT.vs (tm (fE d) c.2.1) (tm (fE d) c.1)) (CapT.vs (tm (fE d) c.2.2) (tm (fE d) c.1)))=(fE d*fE d)*(fE d*fE d)*dt (lG c) (lG c):=by
       simp only [CapT.nsq,CapT.cr,CapT.vs,tm,dt,lG,cr,sb]
       grind
     show _≤CapT.nsq (CapT.cr (CapT.vs (tm (fE d) c.2.1) (tm (fE d) c.1)) (CapT.vs (tm (fE d) c.2.2) (tm (fE d) c.1)))
     rw [e1,hn]
     have:=Int.mul_le_mul_of_nonneg_left r2 (show 0≤(fE d*fE d)*(fE d*fE d) from CapT.sq_int_nonneg _)
     grind
   · show 0 < CapT.nsq (CapT.vs (tm (fE d) c.2.1) (tm (fE d) c.1))
     have h0:=CapT.nsq_nonneg (CapT.vs (tm (fE d) c.2.1) (tm (fE d) c.1))
     have e1:CapT.nsq (CapT.vs (tm (fE d) c.2.1) (tm (fE d) c.1))=(fE d*fE d)*dt (sb c.2.1 c.1) (sb c.2.1 c.1):=by
       simp only [CapT.nsq,CapT.vs,tm,dt,sb]
       grind
     have l1:=CapT.lagr' (sb c.2.1 c.1) (sb c.2.2 c.1)
     have l2:=CapT.lagrC (sb c.2.2 c.1) (sb c.2.1 c.1)
     have n1:1≤dt (lG c) (lG c):=by rw [hn];exact(gE hp).2
     have e2:CapT.nsq (CapT.cr (sb c.2.2 c.1) (sb c.2.1 c.1))=dt (lG c) (lG c):=by
       simp only [CapT.nsq,CapT.cr,dt,lG,cr]
       grind
     have e3:CapT.nsq (sb c.2.1 c.1)=dt (sb c.2.1 c.1) (sb c.2.1 c.1):=rfl
     rw [e2,e3] at l2
     have s0:=CapT.sq_int_nonneg (CapT.dt (sb c.2.2 c.1) (sb c.2.1 c.1))
     have p1:1≤dt (sb c.2.1 c.1) (sb c.2.1 c.1):=by
       rcases Int.lt_or_le 0 (dt (sb c.2.1 c.1) (sb c.2.1 c.1)) with h | h
       · exact h
       · have hz:dt (sb c.2.1 c.1) (sb c.2.1 c.1)=0:=Int.le_antisymm h (by rw [←e3];exact CapT.nsq_nonneg _)
         rw [hz] at l2
         omega
     rw [e1]
     exact Int.mul_pos (Int.mul_pos (by omega) (by omega)) (by omega)
   · rw [Int.toNat_of_nonneg (by omega)]
     have t1:=aZr hd
     have t2:=Int.mul_le_mul_of_nonneg_right r3 (show 0≤fE d*fE d from CapT.sq_int_nonneg _)
     rw [t1] at t2
     have t3:3217*17592186044416≤bX e.1 d*bX e.1 d*(128*(r*(fE d*fE d))):=by grind
     have t4:=CapT.rcast_le t3
     rw [CapT.rcast_mul,CapT.rcast_mul (bX e.1 d*bX e.1 d),CapT.rcast_mul,CapT.rcast_mul 128] at t4
     have c1:((3217:Int):Rat)=3217:=rfl
     have c2:((17592186044416:Int):Rat)=17592186044416:=rfl
     have c3:((128:Int):Rat)=128:=rfl
     rw [c1,c2,c3] at t4
     have t5:=CapT.rmul_le' t4 (CapT.sq_nonneg uu)
     have t6:uu*uu*(3217*17592186044416)=3217*(uu*uu*17592186044416):=by grind
     rw [t6,aTf] at t5
     grind
 have pos:∀H:Int,1≤H→0 < ((H:Int):Rat)*uu:=fun H h=>Rat.mul_pos (CapT.rcast_pos (by omega)) aDe
 unfold sD
 by_cases hz:0 < uI c b
 · rw [if_pos hz]
   have hi:=aKr (N:=NN (sc d)) (n:=uI c b) (by
     have:d=0∨d=1∨d=2:=by omega
     rcases this with rfl | rfl | rfl<;>decide) (by omega)
   have ho:zW (sc d) (uI c b)=inv (NN (sc d)) (uI c b):=by unfold zW;rw [if_neg (by omega)]
   by_cases hR:(zW (sc d) (uI c b)).2 < bX e.1 d
   · rw [if_pos hR]
     rw [ho]
     refine⟨pos _ hi.1,.inl ⟨uI c b*(fE d*fE d),?_,?_,?_⟩⟩
     · have:=Int.mul_le_mul (a:=1) (b:=1) (c:=uI c b) (d:=fE d*fE d) (by omega) (by have:=Int.mul_le_mul (a:=1) (b:=1) (c:=fE d) (d:=fE d) hg.2.1 hg.2.1 (by omega) (by omega);omega) (by omega) (by omega)
       omega
     · refine bDr ?_
       have:=Int.mul_le_mul_of_nonneg_right hi.2.1 (show 0≤fE d*fE d from CapT.sq_int_nonneg _)
       rw [hb1] at this
       grind
     · refine⟨(fE d*gp (oN c).1 (oO c).1 (oN b).1 (oO b).1,fE d*gp (oN c).2.1 (oO c).2.1 (oN b).2.1 (oO b).2.1,fE d*gp (oN c).2.2 (oO c).2.2 (oN b).2.2 (oO b).2.2),Int.mul_nonneg (by omega) (aB3 ..),Int.mul_nonneg (by omega) (aB3 ..),Int.mul_nonneg (by omega) (aB3 ..),?_,aTg _ _ _ _ _ _ _ (by omega),aTg _ _ _ _ _ _ _ (by omega),aTg _ _ _ _ _ _ _ (by omega)⟩
       unfold uI nr CapT.nsq
       simp only
       exact Int.le_of_eq (by grind)
   · rw [if_neg hR]
     exact⟨pos _ R1,.inr rimcase⟩
 · rw [if_neg hz]
   exact⟨pos _ R1,.inr rimcase⟩
theorem aHr {w g:Int} {q:PN} {X:P3} (hg:0≤g)(h:uE w q X):uE (g*w) q (tm g X):=by
 obtain⟨i,j,k,hi,hj,hk,hw,h1,h2,h3⟩:=h
 refine⟨g*i,g*j,g*k,Int.mul_nonneg hg hi,Int.mul_nonneg hg hj,Int.mul_nonneg hg hk,?_,?_,?_,?_⟩
 · rw [←hw];grind
 · simp only [tm];rw [h1];grind
 · simp only [tm];rw [h2];grind
 · simp only [tm];rw [h3];grind
theorem aJf {d R:Int} (hd:0≤d∧d≤2) {w:Rat} {p c:PN} (hp:vp p=0)(hc:c∈aR d.toNat p):∀P,P∈[(aHo d R w c).A,(aHo d R w c).B,(aHo d R w c).C]→uE 4 p P:=by
 obtain⟨h1,h2,h3⟩:=aNu (gE hp).1 (d:=d) (by omega) hc
 have hg:=aHn hd
 intro P hP
 simp only [List.mem_cons,List.not_mem_nil,or_false] at hP
 rw [←hg.1]
 rcases hP with rfl | rfl | rfl
 · exact aHr (by omega) h1
 · exact aHr (by omega) h2
 · exact aHr (by omega) h3
theorem aV0 {d d':Int} (hd:0≤d∧d≤2)(hd':0≤d'∧d'≤2) {L L':List (PN×Int)} (hL:∀e∈L,vp e.1=0∧0≤e.2)(hL':∀e∈L',vp e.1=0∧0≤e.2) {V0:Int} (hV:∀e∈L,V0≤PLs d' L' e.1) :
   ∀t,t∈chs d L→∀M i j:Nat,i+j < M→CapT.potAt (chs d' L') (((V0:Int):Rat)*uu) t M i j:=by
 intro t ht M i j hij
 obtain⟨e,he,b,hb,rfl⟩:=mT ht
 have hp:=(hL e he).1
 refine CapT.potAt_of (fun s=>((bLo d' (lI (sc d') e.1) s.o.1:Int):Rat)*uu) (fun s hs=>?_) ?_ hij
 · obtain⟨e',he',c,hc,rfl⟩:=mT hs
   have hp':=(hL' e' he').1
   have hg:=aHn hd'
   have hb1:=aWw hd'
   have hfp:=aNa (q:=lI (sc d') e.1) hp' (d:=d') (by omega) hc
   have hN:0≤NN (sc d')∧NN (sc d')≤288230376151711744:=aB6 (qK d')
   obtain⟨k,k1,k2,k3,k4,k5,k6,k7,k8⟩:=lH hN hfp
   have hbl:bLo d' (lI (sc d') e.1) c=k:=by
     unfold bLo zW
     rw [if_neg (by omega)]
     unfold inv
     exact k1
   refine⟨?_,fa3 c (lI (sc d') e.1)*(fE d'*fE d'),?_,?_,?_⟩
   · show 0≤((bLo d' (lI (sc d') e.1) c:Int):Rat)*uu
     rw [hbl]
     exact Rat.mul_nonneg (CapT.rcast_le (a:=0) k3) (Rat.le_of_lt aDe)
   · have:=Int.mul_le_mul (a:=1) (b:=1) (c:=fa3 c (lI (sc d') e.1)) (d:=fE d'*fE d') hfp (by have:=Int.mul_le_mul (a:=1) (b:=1) (c:=fE d') (d:=fE d') hg.2.1 hg.2.1 (by omega) (by omega);omega) (by omega) (by omega)
     omega
   · show((bLo d' (lI (sc d') e.1) c:Int):Rat)*uu*(((bLo d' (lI (sc d') e.1) c:Int):Rat)*uu)*_≤1
     rw [hbl]
     refine aZq ?_
     have:=Int.mul_le_mul_of_nonneg_right k8 (show 0≤fE d'*fE d' from CapT.sq_int_nonneg _)
     rw [hb1] at this
     grind
   · intro P hP Q hQ
     have hh:=aJf hd hp hb P hP
     have hQ':∃a,(a=c.1∨a=c.2.1∨a=c.2.2)∧Q=tm (fE d') a:=by
       simp only [List.mem_cons,List.not_mem_nil,or_false] at hQ
       rcases hQ with rfl | rfl | rfl
       · exact⟨_,.inl rfl,rfl⟩
       · exact⟨_,.inr (.inl rfl),rfl⟩
       · exact⟨_,.inr (.inr rfl),rfl⟩
     obtain⟨a,ha,rfl⟩:=hQ'
     have one:∀x:P3,(tm (sc d') x=(lI (sc d') e.1).1∨tm (sc d') x=(lI (sc d') e.1).2.1∨tm (sc d') x=(lI (sc d') e.1).2.2)→ds (tm 4 x) (tm (fE d') a)≤fa3 c (lI (sc d') e.1)*(fE d'*fE d'):=by
       intro x hx
       have h1:=aVy c (lI (sc d') e.1) ha hx
       have h2:=Int.mul_le_mul_of_nonneg_right h1 (show 0≤fE d'*fE d' from CapT.sq_int_nonneg _)
       have e1:ds (tm 4 x) (tm (fE d') a)=ds a (tm (sc d') x)*(fE d'*fE d'):=by
         rw [←hg.1]
         simp only [ds,dt,sb,tm]
         grind
       rw [e1];exact h2
     have:=aNv (w:=4) (Z:=tm (fE d') a) (by decide) hh (one e.1.1 (.inl rfl)) (one e.1.2.1 (.inr (.inl rfl))) (one e.1.2.2 (.inr (.inr rfl)))
     exact this
 · rw [bFa]
   exact CapT.rmul_le (CapT.rcast_le (hV e he)) (Rat.le_of_lt aDe)
theorem bDs {d d':Int} (hd:0≤d∧d≤2)(hd':0≤d'∧d'≤2) {L L':List (PN×Int)} (hL:∀e∈L,vp e.1=0∧0≤e.2)(hL':∀e∈L',vp e.1=0∧0≤e.2) {V0 E0:Int} (hV:∀e∈L,V0≤PLs d' L' e.1)(hE:aDy d L≤E0) :
   (sc d*sc d*nI L)*(sc d*sc d*nI L)*V0≤(sc d'*sc d'*nI L')*E0:=by
 have key:=CapT.cap (X:=chs d L) (Y:=chs d' L') (G:=2048) (h:=hcap d) (V:=((V0:Int):Rat)*uu) (E:=((E0:Int):Rat)*uu)
   (fun t ht=>by
     obtain⟨e,he,c,hc,rfl⟩:=mT ht
     exact⟨CapT.rcast_le (a:=0) (hL e he).2,aL3 hd (hL e he).1 hc⟩)
   (fun t ht=>by
     obtain⟨e,he,c,hc,rfl⟩:=mT ht
     exact⟨CapT.rcast_le (a:=0) (hL' e he).2,aL3 hd' (hL' e he).1 hc⟩)
   (aV0 hd hd' hL hL' hV) (aJe hd hL) (by
     rw [bDq]
     exact CapT.rmul_le (CapT.rcast_le hE) (Rat.le_of_lt aDe))
 rw [aHq hd,aHq hd'] at key
 have h1:(((sc d*sc d*nI L)*(sc d*sc d*nI L)*V0:Int):Rat)*uu≤(((sc d'*sc d'*nI L')*E0:Int):Rat)*uu:=by
   rw [CapT.rcast_mul,CapT.rcast_mul (sc d*sc d*nI L),CapT.rcast_mul (sc d'*sc d'*nI L')]
   grind
 have h2:(((sc d*sc d*nI L)*(sc d*sc d*nI L)*V0:Int):Rat)≤(((sc d'*sc d'*nI L')*E0:Int):Rat):=by
   rcases Rat.le_total (a:=(((sc d*sc d*nI L)*(sc d*sc d*nI L)*V0:Int):Rat)) (b:=(((sc d'*sc d'*nI L')*E0:Int):Rat)) with h | h
   · exact h
   · have hu:uu*4194304=1:=by unfold uu;decide +kernel
     have h3:=CapT.rmul_le h1 (show(0:Rat)≤4194304 by decide +kernel)
     have hx:∀x:Rat,x*uu*4194304=x*(uu*4194304):=fun x=>by grind
     rw [hx,hx,hu] at h3
     grind
 exact Rat.intCast_le_intCast.mp h2
theorem bDt {d:Int} (hd:0≤d∧d≤2) {L:List (PN×Int)} (hL:∀e∈L,vp e.1=0∧0≤e.2) {c:P3} {m B E0:Int} (hc:bd 256 c)(hm:∀e∈L,ds e.1.1 c≤m∧ds e.1.2.1 c≤m∧ds e.1.2.2 c≤m)(hm1:1≤m)(hB:m*1099511627776≤B*B)(hB0:1≤B)(hE:aDy d L≤E0) :
   (sc d*sc d*nI L)*(sc d*sc d*nI L)*1099511627776≤B*E0:=by
 have hBr:=CapT.rcast_pos (a:=B) (by omega)
 have iB:=CapT.odm hBr
 have iB0:=CapT.inv_nn (Rat.le_of_lt hBr)
 have key:=CapT.cap (X:=chs d L) (Y:=[⟨tm 4 c,tm 4 c,tm 4 c,1,((c,c,c),0)⟩]) (G:=2048) (h:=hcap d) (V:=262144*(1 / ((B:Int):Rat))) (E:=((E0:Int):Rat)*uu)
   (fun t ht=>by
     obtain⟨e,he,c,hc,rfl⟩:=mT ht
     exact⟨CapT.rcast_le (a:=0) (hL e he).2,aL3 hd (hL e he).1 hc⟩)
   (fun t ht=>by
     obtain rfl:=List.mem_singleton.1 ht
     have:CapT.inb ((2048:Nat):Int) (tm 4 c):=by
       unfold CapT.inb tm bd at *
       simp only
       omega
     exact⟨show(0:Rat)≤1 by decide +kernel,this,this,this⟩)
   (fun t ht M i j hij=>by
     obtain⟨e,he,b,hb,rfl⟩:=mT ht
     have hp:=(hL e he).1
     refine CapT.potAt_of (fun _=>262144*(1 / ((B:Int):Rat))) (fun s hs=>?_) ?_ hij
     · obtain rfl:=List.mem_singleton.1 hs
       refine⟨Rat.mul_nonneg (by decide +kernel) iB0,16*m,by omega,?_,?_⟩
       · have h1:=CapT.rcast_le hB
         rw [CapT.rcast_mul,CapT.rcast_mul] at h1
         have h2:=CapT.rmul_le' h1 (CapT.sq_nonneg (1 / ((B:Int):Rat)))
         have e1:(1 / ((B:Int):Rat))*(1 / ((B:Int):Rat))*(((B:Int):Rat)*((B:Int):Rat))=(1 / ((B:Int):Rat)*((B:Int):Rat))*(1 / ((B:Int):Rat)*((B:Int):Rat)):=by grind
         rw [e1,iB] at h2
         have c1:((1099511627776:Int):Rat)=1099511627776:=rfl
         rw [c1] at h2
         rw [CapT.rcast_mul,show((16:Int):Rat)=16 from rfl]
         grind
       · intro P hP Q hQ
         have hh:=aJf hd hp hb P hP
         have hQ':Q=tm 4 c:=by
           simp only [List.mem_cons,List.not_mem_nil,or_false,or_self] at hQ
           exact hQ
         subst hQ'
         have e4:∀x:P3,ds (tm 4 x) (tm 4 c)=16*ds x c:=by
           intro x;simp only [ds,dt,sb,tm];grind
         have h3:=hm e he
         exact aNv (w:=4) (Z:=tm 4 c) (by decide) hh (by rw [e4];omega) (by rw [e4];omega) (by rw [e4];omega)
     · simp only [CapT.ls];grind)
   (aJe hd hL) (by
     rw [bDq]
     exact CapT.rmul_le (CapT.rcast_le hE) (Rat.le_of_lt aDe))
 rw [aHq hd] at key
 have t1:CapT.tot [⟨tm 4 c,tm 4 c,tm 4 c,1,((c,c,c),0)⟩]=1:=by simp only [CapT.tot,CapT.ls];grind
 rw [t1] at key
 have h1:=CapT.rmul_le key (Rat.le_of_lt hBr)
 have hu:uu*4194304=1:=by unfold uu;decide +kernel
 have h2:=CapT.rmul_le h1 (show(0:Rat)≤4194304 by decide +kernel)
 have e2:∀x:Rat,x*(262144*(1 / ((B:Int):Rat)))*((B:Int):Rat)*4194304=x*1099511627776*(1 / ((B:Int):Rat)*((B:Int):Rat)):=fun x=>by grind
 have e3:1*(((E0:Int):Rat)*uu)*((B:Int):Rat)*4194304=((B:Int):Rat)*((E0:Int):Rat)*(uu*4194304):=by grind
 rw [e2,e3,iB,hu] at h2
 refine Rat.intCast_le_intCast.mp ?_
 rw [CapT.rcast_mul,CapT.rcast_mul (sc d*sc d*nI L),CapT.rcast_mul B]
 have c1:((1099511627776:Int):Rat)=1099511627776:=rfl
 rw [c1]
 grind
end Go.Proofs.YtaeagjnpobdglaaGreat
namespace Go.Proofs.YtaeagjnpobdglaaGreat
open Go.Proofs Go.Aw Go.RowKit
set_option maxRecDepth 100000
theorem jW {α:Type} {f g:α→Int}:∀{l:List α},(∀c∈l,f c≤g c)→(l.map f).sum≤(l.map g).sum
 | [],_=>Int.le_refl _
 | c::l,h=>by
   have h1:=h c List.mem_cons_self
   have h2:=jW (l:=l) (fun x hx=>h x (List.mem_cons_of_mem _ hx))
   simp only [List.map_cons,List.sum_cons];omega
theorem eW {α:Type} (a:Int)(f:α→Int):∀l:List α,(l.map fun c=>a*f c).sum=a*(l.map f).sum
 | []=>by simp
 | c::l=>by simp only [List.map_cons,List.sum_cons];rw [eW a f l,Int.mul_add]
theorem pD {α:Type} (a:Int):∀l:List α,(l.map fun _=>a).sum=(l.length:Int)*a
 | []=>by simp
 | c::l=>by simp only [List.map_cons,List.sum_cons,List.length_cons];rw [pD a l,show((l.length+1:Nat):Int)=(l.length:Int)+1 by omega,Int.add_mul];omega
theorem aZs {v:Int×Int} {n:Int} (hn:1≤n):n*(avg v n).1≤v.1:=Int.mul_ediv_self_le (by omega)
theorem aTh {v:Int×Int} {n:Int} (hn:1≤n):v.2≤n*(avg v n).2:=by
 have:=Int.mul_ediv_self_le (x:=-v.2) (k:=n) (by omega)
 show v.2≤n*-(-v.2 / n)
 rw [Int.mul_neg];omega
theorem gY (d:Int):1≤sc d*sc d:=by
 rcases qK d with h | h | h | h<;>rw [h]<;>decide
theorem aZt (p q:PN)(d:Int):sc d*sc d*(hG p q d).1≤((aR d.toNat p).map (bLo d q)).sum:=by
 unfold hG
 refine Int.le_trans (aZs (gY d)) ?_
 rw [vR];simp only [Int.zero_add];exact Int.le_refl _
theorem aTi (p q:PN)(d:Int):((aR d.toNat p).map (sD (bX p d) d q)).sum≤sc d*sc d*(hG p q d).2:=by
 unfold hG
 refine Int.le_trans ?_ (aTh (gY d))
 rw [vR];simp only [Int.zero_add];exact Int.le_refl _
theorem bDu {d:Int} {L:List (PN×Int)} (hL:∀e∈L,vp e.1=0∧0≤e.2)(p:PN):sc d*sc d*(L.map fun e=>e.2*(hG e.1 (lI (sc d) p) d).1).sum≤PLs d L p:=by
 unfold PLs
 rw [←eW]
 refine jW (fun e he=>?_)
 rw [eW]
 have:=Int.mul_le_mul_of_nonneg_left (aZt e.1 (lI (sc d) p) d) (hL e he).2
 have e1:sc d*sc d*(e.2*(hG e.1 (lI (sc d) p) d).1)=e.2*(sc d*sc d*(hG e.1 (lI (sc d) p) d).1):=by grind
 rw [e1];exact this
theorem aTj {p q b:PN} {d:Int} {c:PN} (hp:vp p=0)(hq:vp q=0)(hd:0≤d∧d≤2)(hc:c∈aR d.toNat p)(hb:b∈aR d.toNat q):sD (bX p d) d b c≤sD (bX p d) d (lI (sc d) q) c:=by
 have hn:=aTe (a:=c) (gE hq).1 (d:=d) (by omega) hb
 have hN:1≤NN (sc d)∧NN (sc d)≤288230376151711744:=by
   have:d=0∨d=1∨d=2:=by omega
   rcases this with rfl | rfl | rfl<;>decide
 unfold sD
 by_cases h1:0 < uI c (lI (sc d) q)
 · rw [if_pos h1,if_pos (show 0 < uI c b by omega)]
   have hm:(zW (sc d) (uI c b)).2≤(zW (sc d) (uI c (lI (sc d) q))).2:=by
     unfold zW
     rw [if_neg (by omega),if_neg (by omega)]
     exact aIv hN (by omega) hn
   split<;>split<;>omega
 · rw [if_neg h1]
   split
   · split<;>omega
   · omega
theorem aZu {d:Int} (hd:0≤d∧d≤2) {L:List (PN×Int)} (hL:∀e∈L,vp e.1=0∧0≤e.2):aDy d L≤(sc d*sc d)*(sc d*sc d)*(L.map fun e'=>e'.2*(L.map fun e=>e.2*(hG e.1 (lI (sc d) e'.1) d).2).sum).sum:=by
 unfold aDy
 rw [←eW]
 refine jW (fun e' he'=>?_)
 have key:∀b∈aR d.toNat e'.1,e'.2*(L.map fun e=>((aR d.toNat e.1).map fun c=>e.2*sD (bX e.1 d) d b c).sum).sum≤e'.2*(sc d*sc d*(L.map fun e=>e.2*(hG e.1 (lI (sc d) e'.1) d).2).sum):=by
   intro b hb
   refine Int.mul_le_mul_of_nonneg_left ?_ (hL e' he').2
   rw [←eW]
   refine jW (fun e he=>?_)
   rw [eW]
   have h1:=jW (l:=aR d.toNat e.1) (f:=sD (bX e.1 d) d b) (g:=sD (bX e.1 d) d (lI (sc d) e'.1)) (fun c hc=>aTj (hL e he).1 (hL e' he').1 hd hc hb)
   have h2:=Int.le_trans h1 (aTi e.1 (lI (sc d) e'.1) d)
   have h3:=Int.mul_le_mul_of_nonneg_left h2 (hL e he).2
   have e1:sc d*sc d*(e.2*(hG e.1 (lI (sc d) e'.1) d).2)=e.2*(sc d*sc d*(hG e.1 (lI (sc d) e'.1) d).2):=by grind
   rw [e1];exact h3
 refine Int.le_trans (jW key) ?_
 rw [pD,mM (by omega) e'.1]
 exact Int.le_of_eq (by grind)
theorem aZv {d:Int} (hd:0≤d∧d≤2) {L:List (PN×Int)} (hL:∀e∈L,vp e.1=0∧0≤e.2):aDy d L≤(sc d*sc d)*(sc d*sc d)*(L.map fun e'=>(L.map fun e=>e.2*e'.2*(aGh e.1 e'.1 d).1.2).sum).sum:=by
 unfold aDy
 rw [←eW]
 refine jW (fun e' he'=>?_)
 -- exchange the iW over b and e
 have ex:((aR d.toNat e'.1).map fun b=>e'.2*(L.map fun e=>((aR d.toNat e.1).map fun c=>e.2*sD (bX e.1 d) d b c).sum).sum).sum=(L.map fun e=>((aR d.toNat e'.1).map fun b=>e'.2*((aR d.toNat e.1).map fun c=>e.2*sD (bX e.1 d) d b c).sum).sum).sum:=by
   have sw:∀(A:List PN) (B:List (PN×Int)) (f:PN→PN×Int→Int),(A.map fun a=>(B.map fun b=>f a b).sum).sum=(B.map fun b=>(A.map fun a=>f a b).sum).sum:=by
     intro A B f
     induction A with
     | nil=>simp only [List.map_nil,List.sum_nil];rw [pD];omega
     | cons a A ih =>
       simp only [List.map_cons,List.sum_cons,ih]
       clear ih
       induction B with
       | nil=>simp
       | cons b B ih2=>simp only [List.map_cons,List.sum_cons];omega
   have e2:((aR d.toNat e'.1).map fun b=>e'.2*(L.map fun e=>((aR d.toNat e.1).map fun c=>e.2*sD (bX e.1 d) d b c).sum).sum)=((aR d.toNat e'.1).map fun b=>(L.map fun e=>e'.2*((aR d.toNat e.1).map fun c=>e.2*sD (bX e.1 d) d b c).sum).sum):=by
     refine List.map_congr_left (fun b _=>?_)
     rw [eW]
   rw [e2];exact sw _ _ _
 rw [ex,←eW]
 refine jW (fun e he=>?_)
 have hpk:pk e.1 e'.1 d=0:=by unfold pk;rw [if_pos (hL e he).1,if_pos (hL e' he').1,if_pos hd]
 have hm:(aGh e.1 e'.1 d).1.2=(avg (iW (tN e.1 e'.1 d) (0,0)) (sc d*sc d)).2:=by unfold aGh;rw [if_pos hpk]
 have h1:((aR d.toNat e'.1).map fun b=>e'.2*((aR d.toNat e.1).map fun c=>e.2*sD (bX e.1 d) d b c).sum).sum≤e.2*e'.2*(sc d*sc d*((aR d.toNat e'.1).map fun b=>(hG e.1 b d).2).sum):=by
   rw [←eW,←eW]
   refine jW (fun b hb=>?_)
   rw [eW]
   have h2:=aTi e.1 b d
   have h3:=Int.mul_le_mul_of_nonneg_left h2 (Int.mul_nonneg (hL e he).2 (hL e' he').2)
   have e1:e'.2*(e.2*((aR d.toNat e.1).map fun c=>sD (bX e.1 d) d b c).sum)=e.2*e'.2*((aR d.toNat e.1).map (sD (bX e.1 d) d b)).sum:=by grind
   rw [e1];exact h3
 refine Int.le_trans h1 ?_
 have h4:=aTh (v:=iW (tN e.1 e'.1 d) (0,0)) (gY d)
 rw [rI] at h4
 have e3:(((0:Int),(0:Int)).2+((tN e.1 e'.1 d).map (·.2)).sum)=((aR d.toNat e'.1).map fun b=>(hG e.1 b d).2).sum:=by
   unfold tN
   rw [List.map_map]
   simp only [Int.zero_add]
   rfl
 simp only at h4 e3
 rw [e3] at h4
 rw [hm,rI]
 have h5:=Int.mul_le_mul_of_nonneg_left h4 (show 0≤sc d*sc d by have:=gY d;omega)
 have h6:=Int.mul_le_mul_of_nonneg_left h5 (Int.mul_nonneg (hL e he).2 (hL e' he').2)
 exact Int.le_trans h6 (Int.le_of_eq (by grind))
structure Sys (L:List (PN×Int)) (d Q mx E mn:Int):Prop where
 hd:0≤d∧d≤2
 hL:∀e∈L,vp e.1=0∧0≤e.2
 hQ:nI L=Q
 Q1:1≤Q
 E1:1≤E
 mx1:1≤mx
 mn1:1≤mn
 hmx:∀e∈L,(L.map fun e'=>e'.2*(hG e'.1 (lI (sc d) e.1) d).2).sum≤mx
 hmn:∀e∈L,mn≤(L.map fun e'=>e'.2*(hG e'.1 (lI (sc d) e.1) d).1).sum
 hE:(L.map fun e'=>(L.map fun e=>e.2*e'.2*(aGh e.1 e'.1 d).1.2).sum).sum≤E
theorem aNw {L:List (PN×Int)} {d Q mx E mn:Int} (S:Sys L d Q mx E mn):aDy d L≤(sc d*sc d)*(sc d*sc d)*(Q*mx):=by
 refine Int.le_trans (aZu S.hd S.hL) (Int.mul_le_mul_of_nonneg_left ?_ (Int.mul_nonneg (by have:=gY d;omega) (by have:=gY d;omega)))
 have h1:=jW (l:=L) (f:=fun e'=>e'.2*(L.map fun e=>e.2*(hG e.1 (lI (sc d) e'.1) d).2).sum) (g:=fun e'=>mx*e'.2) (fun e' he'=>by
   have:=Int.mul_le_mul_of_nonneg_left (S.hmx e' he') (S.hL e' he').2
   exact Int.le_trans this (Int.le_of_eq (Int.mul_comm _ _)))
 rw [eW] at h1
 have:(L.map (·.2)).sum=Q:=S.hQ
 rw [this] at h1
 exact Int.le_trans h1 (Int.le_of_eq (Int.mul_comm _ _))
theorem aNx {L:List (PN×Int)} {d Q mx E mn:Int} (S:Sys L d Q mx E mn):aDy d L≤(sc d*sc d)*(sc d*sc d)*E :=
 Int.le_trans (aZv S.hd S.hL) (Int.mul_le_mul_of_nonneg_left S.hE (Int.mul_nonneg (by have:=gY d;omega) (by have:=gY d;omega)))
theorem eF {a b k:Int} (hk:1≤k)(h:k*a≤k*b):a≤b:=Int.le_of_mul_le_mul_left h (by omega)
theorem aTk {L L':List (PN×Int)} {d Q mx E mn d' Q' mx' E' mn':Int} (S:Sys L d Q mx E mn)(S':Sys L' d' Q' mx' E' mn')
   (hV:∀e∈L,mn'≤(L'.map fun e'=>e'.2*(hG e'.1 (lI (sc d') e.1) d').1).sum):Q*Q*mn'≤Q'*E∧Q*mn'≤Q'*mx:=by
 have hV0:∀e∈L,sc d'*sc d'*mn'≤PLs d' L' e.1:=fun e he =>
   Int.le_trans (Int.mul_le_mul_of_nonneg_left (hV e he) (by have:=gY d';omega)) (bDu S'.hL e.1)
 have a:=bDs S.hd S'.hd S.hL S'.hL hV0 (aNx S)
 have b:=bDs S.hd S'.hd S.hL S'.hL hV0 (aNw S)
 rw [S.hQ,S'.hQ] at a b
 have n1:=gY d;have n2:=gY d'
 generalize sc d*sc d=n at *
 generalize sc d'*sc d'=n' at *
 have nn:1≤n*n:=by have:=Int.mul_le_mul (a:=1) (b:=1) (c:=n) (d:=n) n1 n1 (by omega) (by omega);omega
 have nnn:1≤n*n*n':=by have:=Int.mul_le_mul (a:=1) (b:=1) (c:=n*n) (d:=n') nn n2 (by omega) (by omega);omega
 refine⟨eF nnn ?_,eF S.Q1 (eF nnn ?_)⟩
 · have e1:n*n*n'*(Q*Q*mn')=n*Q*(n*Q)*(n'*mn'):=by grind
   have e2:n*n*n'*(Q'*E)=n'*Q'*(n*n*E):=by grind
   rw [e1,e2];exact a
 · have e1:n*n*n'*(Q*(Q*mn'))=n*Q*(n*Q)*(n'*mn'):=by grind
   have e2:n*n*n'*(Q*(Q'*mx))=n'*Q'*(n*n*(Q*mx)):=by grind
   rw [e1,e2];exact b
theorem aTl {L:List (PN×Int)} {d Q mx E mn:Int} (S:Sys L d Q mx E mn) {c:P3} {m B:Int} (hc:bd 256 c)(hm:∀e∈L,ds e.1.1 c≤m∧ds e.1.2.1 c≤m∧ds e.1.2.2 c≤m)(hm1:1≤m)(hB:m*1099511627776≤B*B)(hB0:1≤B):Q*Q*1099511627776≤B*E∧Q*1099511627776≤B*mx:=by
 have a:=bDt S.hd S.hL hc hm hm1 hB hB0 (aNx S)
 have b:=bDt S.hd S.hL hc hm hm1 hB hB0 (aNw S)
 rw [S.hQ] at a b
 have n1:=gY d
 generalize sc d*sc d=n at *
 have nn:1≤n*n:=by have:=Int.mul_le_mul (a:=1) (b:=1) (c:=n) (d:=n) n1 n1 (by omega) (by omega);omega
 refine⟨eF nn ?_,eF S.Q1 (eF nn ?_)⟩
 · have e1:n*n*(Q*Q*1099511627776)=n*Q*(n*Q)*1099511627776:=by grind
   have e2:n*n*(B*E)=B*(n*n*E):=by grind
   rw [e1,e2];exact a
 · have e1:n*n*(Q*(Q*1099511627776))=n*Q*(n*Q)*1099511627776:=by grind
   have e2:n*n*(Q*(B*mx))=B*(n*n*(Q*mx)):=by grind
   rw [e1,e2];exact b
theorem aTm {x n:Int} (h1:-1099511627776≤mB x n)(h2:mB x n≤1099511627776):mB x n=x*n:=by
 unfold mB at *
 split at h1<;>rename_i a
 · rw [if_pos a] at h2;omega
 · rw [if_neg a] at h2 ⊢
   split at h1<;>rename_i b
   · omega
   · rw [if_neg b]
theorem aNy {a:Int×Int} {n:Int} (ha:okP a)(hn:0≤n∧n≤10000)(h:(nW a n).2=0):(nW a n).1=(a.1*n,a.2*n):=by
 rw [aGe (aGv ha) (by omega)] at h ⊢
 rcases rH (scl a n).1 (scl a n).2 with⟨e,v⟩ | e
 · rw [e]
   have hs:scl a n=(mB a.1 n,mB a.2 n):=by unfold scl;rw [if_neg (by omega)]
   rw [hs] at v ⊢
   unfold vs at v
   simp only at v ⊢
   rw [aTm v.1 (by omega),aTm (x:=a.2) (by omega) v.2.2]
 · rw [e] at h;exact absurd h (by decide)
theorem aNz {l:List ((Int×Int)×Int)} (hl:∀c∈l,okP c.1∧0≤c.2∧c.2≤10000)(h:(dZ l).2=0):(dZ l).1=((l.map fun c=>c.1.1*c.2).sum,(l.map fun c=>c.1.2*c.2).sum):=by
 unfold dZ at h ⊢
 cases hs:nJ sF l [] with
 | inr r=>rw [hs] at h;exact absurd h (rK hs)
 | inl m =>
   rw [hs] at h
   simp only [pO] at h ⊢
   obtain⟨e,hv⟩:=aQ2 h
   rw [e]
   obtain⟨e2,h0⟩:=kY hs
   rw [List.nil_append] at e2
   rw [rI,e2]
   simp only [Int.zero_add,List.map_map]
   refine Prod.ext ?_ ?_
   · refine congrArg List.sum (List.map_congr_left fun c hc=>?_)
     show(nW c.1 c.2).1.1=_
     rw [aNy (hl c hc).1 (hl c hc).2 (h0 c hc)]
   · refine congrArg List.sum (List.map_congr_left fun c hc=>?_)
     show(nW c.1 c.2).1.2=_
     rw [aNy (hl c hc).1 (hl c hc).2 (h0 c hc)]
theorem aV1 {T:TB} {q:List Int} (hT:∀r∈T,r.length=q.length∧∀s∈r,okP s)(hq:okC q)(h:(pP T q).2=0) :
   (pP T q).1=T.map fun r=>(((r.zip q).map fun c=>c.1.1*c.2).sum,((r.zip q).map fun c=>c.1.2*c.2).sum):=by
 unfold pP at h ⊢
 cases hs:nJ (fun r:List (Int×Int)=>dZ (r.zip q)) T [] with
 | inr r=>rw [hs] at h;exact absurd h (rK hs)
 | inl m =>
   simp only [pO]
   obtain⟨e,h0⟩:=kY hs
   rw [List.nil_append] at e
   subst e
   refine List.map_congr_left fun r hr=>?_
   obtain⟨hl,hP⟩:=hT r hr
   exact aNz (l:=r.zip q) (fun c hc=>⟨hP _ (List.of_mem_zip hc).1,by have:=hq _ (List.of_mem_zip hc).2;omega⟩) (h0 r hr)
theorem aTn:∀(l:List (Int×Int))(v:Int),v≤mxF l v∧∀s∈l,s.2≤mxF l v
 | [],v=>⟨Int.le_refl _,fun s hs=>by cases hs⟩
 | a::l,v=>by
   have ih:=aTn l (iL v a.2)
   have hb:v≤iL v a.2∧a.2≤iL v a.2:=by unfold iL;split<;>omega
   refine⟨Int.le_trans hb.1 ih.1,fun s hs=>?_⟩
   rcases List.mem_cons.1 hs with rfl | hs
   · exact Int.le_trans hb.2 ih.1
   · exact ih.2 s hs
theorem aTo:∀(l:List (Int×Int))(v:Int),mnF l v≤v∧∀s∈l,mnF l v≤s.1
 | [],v=>⟨Int.le_refl _,fun s hs=>by cases hs⟩
 | a::l,v=>by
   have ih:=aTo l (pL v a.1)
   have hb:pL v a.1≤v∧pL v a.1≤a.1:=by unfold pL;split<;>omega
   refine⟨Int.le_trans ih.1 hb.1,fun s hs=>?_⟩
   rcases List.mem_cons.1 hs with rfl | hs
   · exact Int.le_trans ih.1 hb.2
   · exact ih.2 s hs
theorem aN0:∀(l:List (Int×Int))(v:Int),1≤v→(∀s∈l,1≤s.1)→1≤mnF l v
 | [],v,h,_=>h
 | a::l,v,h,h2=>aN0 l (pL v a.1) (by have:=h2 a List.mem_cons_self;unfold pL;split<;>omega) (fun s hs=>h2 s (List.mem_cons_of_mem _ hs))
theorem aTp:∀(l:List (Int×Int))(v B:Int),v≤B→(∀s∈l,s.2≤B)→mxF l v≤B
 | [],v,B,h,_=>h
 | a::l,v,B,h,h2=>aTp l (iL v a.2) B (by have:=h2 a List.mem_cons_self;unfold iL;split<;>omega) (fun s hs=>h2 s (List.mem_cons_of_mem _ hs))
theorem aTq {n:Int} (h:(F97 n).2=0):(F97 n).1=n∧n≤1099511627776:=by
 unfold F97 at h ⊢
 by_cases c:n > 1099511627776
 · rw [bW c] at h;exact absurd h (show ¬((4:Int)=0) by decide)
 · rw [cK c];exact⟨rfl,by omega⟩
abbrev chg (m:ME)(q:List Int):List (PN×Int):=(aU m).zip q
theorem aV2 {m:ME} {q:List Int} (hC:ChOK m q):nI (chg m q)=q.sum:=by
 unfold nI chg
 have hpl:(aU m).length=m.2.length:=List.length_map _
 rw [List.map_snd_zip (by have:=hC.len;omega)]
theorem aZw {m:ME} {q:List Int} (hC:ChOK m q):∀e∈chg m q,vp e.1=0∧0≤e.2:=by
 intro e he
 have h1:=List.of_mem_zip he
 refine⟨?_,(hC.ok _ h1.2).1⟩
 obtain⟨c,hc,e1⟩:=List.mem_map.1 h1.1
 rw [←e1]
 exact aGu hC.v c hc
structure BV (x:Int×Int) (Q mx E mn B:Int):Prop where
 lo:∃b t,x.1=iL b t∧0≤b∧0≤t∧b*mx≤Q*1099511627776∧t*E≤Q*Q*1099511627776
 hi:∃a,x.2=pL a B∧Q*1099511627776≤a*mn∧a≤1099511627776
theorem yN {m:ME} {q:List Int} {d:Int} (h:(bU m q d).2=0):ChOK m q∧∃Q mx E mn,Sys (chg m q) d Q mx E mn∧BV (bU m q d).1 Q mx E mn (tS m (yK (zZ m))).1:=by
 unfold bU at h ⊢
 cases hc:((gF (m.1,m.2) q d:Int) != 0) with
 | true=>simp only [hc,cond_true] at h;rw [h] at hc;cases hc
 | false =>
   obtain⟨hv,hd⟩:=aI4 (m:=m) hc
   have hC:ChOK m q:=by have hc2:((gF m q d:Int) != 0)=false:=hc;rw [zG] at hc2;exact(gJ (bne_eq_false_iff_eq.1 hc2)).1
   refine⟨hC,?_⟩
   have hpf:=aLr (m:=m) hv hd
   simp only [hc,cond_false] at h ⊢
   have hpf':F33 (m.1,m.2) d=_:=hpf
   rw [hpf'] at h ⊢
   rw [show((((((m.1,m.2),(bS m d).1,(cB m d).1,(tS m (yK (zZ m))).1),0):TBL×Int).2:Int) != 0)=false from rfl,cond_false] at h ⊢
   have eB:(bS m d).1=(aU m).map (fY m d):=by rw [aI0 hv hd];rfl
   have eM:(cB m d).1=MT m d:=by rw [aI1 hv hd];rfl
   simp only [eB,eM] at h ⊢
   have hn:=hC.n;have hl:=hC.len;have hs1:=hC.pos;have hle:=hC.le
   have hpl:(aU m).length=m.2.length:=List.length_map _
   have hrow:∀r∈(aU m).map (fY m d),r.length=q.length∧∀s∈r,okP s:=fun r hr=>by
     obtain⟨p,hp,rfl⟩:=List.mem_map.1 hr
     unfold fY
     refine⟨by rw [List.length_map];omega,fun s hsm=>?_⟩
     obtain⟨p',hp',rfl⟩:=List.mem_map.1 hsm
     exact(kK (mA hC.v hd hp' hp)).2
   have ep:=aNh (T:=(aU m).map (fY m d)) (q:=q) (fun r hr=>by rw [(hrow r hr).1];exact Nat.le_refl _) (by omega)
   have ee:=aY9 (m:=m) (q:=q) (d:=d) (by omega) (by omega)
   unfold jB at h ⊢
   simp only [ep,ee] at h ⊢
   generalize hB:(tS m (yK (zZ m))).1=B at *
   cases hP:((((pP ((aU m).map (fY m d)) q).2:Int)) != 0) with
   | true=>simp only [hP,cond_true] at h;rw [h] at hP;cases hP
   | false =>
     simp only [hP,cond_false] at h ⊢
     have hP0:=bne_eq_false_iff_eq.1 hP
     have pv:=aV1 hrow hC.ok hP0
     have pp:=aGw hrow hC.ok hP0
     cases hb:(((gW (pP ((aU m).map (fY m d)) q).1 q).2:Int) != 0) with
     | true=>simp only [hb,cond_true] at h;rw [h] at hb;cases hb
     | false =>
       simp only [hb,cond_false] at h ⊢
       cases hE:(((dZ (((aU m).zip q).flatMap (eC m q d))).2:Int) != 0) with
       | true=>simp only [hE,cond_true] at h;rw [h] at hE;cases hE
       | false =>
         simp only [hE,cond_false] at h ⊢
         have hE0:=bne_eq_false_iff_eq.1 hE
         have hzq:∀e∈(aU m).zip q,0≤e.2∧e.2≤100:=fun e he=>hC.ok _ (List.of_mem_zip he).2
         have hWq:∀c∈(aU m).zip q,∀e∈(aU m).zip q,W (c.2*e.2)=c.2*e.2∧0≤c.2*e.2∧c.2*e.2≤10000:=fun c hc e he=>by
           have a:=hzq c hc;have b:=hzq e he
           have c1:=Int.mul_nonneg a.1 b.1
           have c2:=Int.mul_le_mul (a:=c.2) (b:=e.2) (c:=100) (d:=100) a.2 b.2 b.1 (by omega)
           exact⟨aD (by omega) (by omega),c1,by omega⟩
         have hel:∀c∈((aU m).zip q).flatMap (eC m q d),okP c.1∧0≤c.2∧c.2≤10000:=fun c hc=>by
           obtain⟨e,he,hc⟩:=List.mem_flatMap.1 hc
           obtain⟨e',he',rfl⟩:=List.mem_map.1 hc
           have:=hWq e he e' he'
           exact⟨(oW (mA hC.v hd (List.of_mem_zip he).1 (List.of_mem_zip he').1)).2,by simp only;rw [this.1];exact this.2.1,by simp only;rw [this.1];exact this.2.2⟩
         have ev:=aNz hel hE0
         have epos:=aLq hC hd hE0
         cases ht:(((pJ (dZ (((aU m).zip q).flatMap (eC m q d))).1 q).2:Int) != 0) with
         | true=>simp only [ht,cond_true] at h;rw [h] at ht;cases ht
         | false =>
           simp only [ht,cond_false] at h ⊢
           cases ha:(((gX (pP ((aU m).map (fY m d)) q).1 q).2:Int) != 0) with
           | true=>simp only [ha,cond_true] at h;rw [h] at ha;cases ha
           | false =>
             simp only [cond_false]
             have tq:=aSl hC.ok hC.pos (by omega)
             have o1:=aCy hC.ok hC.pos (by omega)
             have hb0:=bne_eq_false_iff_eq.1 hb
             have ht0:=bne_eq_false_iff_eq.1 ht
             have ha0:=bne_eq_false_iff_eq.1 ha
             rw [aNl] at hb0 ⊢
             rw [aNm] at ha0 ⊢
             unfold pJ at ht0 ⊢
             rw [tq.1] at hb0 ha0 ht0 ⊢
             rw [tq.1] at o1
             rw [o1] at ht0 ⊢
             simp only at ht0 ⊢
             generalize hl2:(pP ((aU m).map (fY m d)) q).1=l at *
             have l1:1≤l.length:=by rw [pp.1,List.length_map];omega
             have lv:∀s∈l,1≤s.1∧s.1≤s.2∧s.2≤1099511627776:=fun s hs=>by
               have:=pp.2 s hs
               unfold vs at this;omega
             have l0m:l.getD (toNat 0) default∈l:=by
               rw [show toNat 0=0 from rfl,fO,List.getElem?_eq_getElem (show 0 < l.length by omega)]
               exact List.getElem_mem (show 0 < l.length by omega)
             have hmx:=aTn l (l.getD (toNat 0) default).2
             have hmn:=aTo l (l.getD (toNat 0) default).1
             have mn1:=aN0 l (l.getD (toNat 0) default).1 (lv _ l0m).1 (fun s hs=>(lv s hs).1)
             have mxb:=aTp l (l.getD (toNat 0) default).2 1099511627776 (lv _ l0m).2.2 (fun s hs=>(lv s hs).2.2)
             have mx1:1≤mxF l (l.getD (toNat 0) default).2:=by have:=lv _ l0m;omega
             have mnb:mnF l (l.getD (toNat 0) default).1≤1099511627776:=by have:=lv _ l0m;omega
             generalize mxF l (l.getD (toNat 0) default).2=mx at *
             generalize mnF l (l.getD (toNat 0) default).1=mn at *
             have hEE:(dZ (((aU m).zip q).flatMap (eC m q d))).1.2=((((aU m).zip q).flatMap (eC m q d)).map fun c=>c.1.2*c.2).sum:=by rw [ev]
             generalize hEg:(dZ (((aU m).zip q).flatMap (eC m q d))).1.2=E at *
             have hvE:E≤1099511627776:=by have:=epos.2;unfold vs at this;omega
             refine⟨q.sum,mx,E,mn,⟨hd,aZw hC,aV2 hC,hC.pos,epos.1,mx1,mn1,?_,?_,?_⟩,⟨?_,?_⟩⟩
             · intro e he
               have hx2:=hmx.2
               rw [pv] at hx2
               have hm:=hx2 _ (List.mem_map.2 ⟨fY m d e.1,List.mem_map.2 ⟨e.1,(List.of_mem_zip he).1,rfl⟩,rfl⟩)
               refine Int.le_trans (Int.le_of_eq ?_) hm
               simp only
               unfold fY
               rw [aNi,List.map_map]
               refine congrArg List.sum (List.map_congr_left fun e' he'=>?_)
               have:=xS (mA hC.v hd (List.of_mem_zip he').1 (List.of_mem_zip he).1)
               simp only [Function.comp]
               rw [this];exact Int.mul_comm _ _
             · intro e he
               have hx2:=hmn.2
               rw [pv] at hx2
               have hm:=hx2 _ (List.mem_map.2 ⟨fY m d e.1,List.mem_map.2 ⟨e.1,(List.of_mem_zip he).1,rfl⟩,rfl⟩)
               refine Int.le_trans hm (Int.le_of_eq ?_)
               simp only
               unfold fY
               rw [aNi,List.map_map]
               refine congrArg List.sum (List.map_congr_left fun e' he'=>?_)
               have:=xS (mA hC.v hd (List.of_mem_zip he').1 (List.of_mem_zip he).1)
               simp only [Function.comp]
               rw [this];exact Int.mul_comm _ _
             · rw [hEE]
               refine Int.le_of_eq ?_
               -- sum over e' of sum over e against sum over c of sum over e
               have fl:∀(A:List (PN×Int)) (g:PN×Int→List ((Int×Int)×Int)),((A.flatMap g).map fun c=>c.1.2*c.2).sum=(A.map fun a=>((g a).map fun c=>c.1.2*c.2).sum).sum:=by
                 intro A g
                 induction A with
                 | nil=>rfl
                 | cons a A ih=>rw [List.flatMap_cons,List.map_append,List.sum_append,ih,List.map_cons,List.sum_cons]
               have sw:∀(A B:List (PN×Int)) (f:PN×Int→PN×Int→Int),(A.map fun a=>(B.map fun b=>f a b).sum).sum=(B.map fun b=>(A.map fun a=>f a b).sum).sum:=by
                 intro A B f
                 induction A with
                 | nil=>simp only [List.map_nil,List.sum_nil];rw [pD];omega
                 | cons a A ih =>
                   simp only [List.map_cons,List.sum_cons,ih]
                   clear ih
                   induction B with
                   | nil=>simp
                   | cons b B ih2=>simp only [List.map_cons,List.sum_cons];omega
               rw [fl,sw]
               refine congrArg List.sum (List.map_congr_left fun c hc=>?_)
               unfold eC
               rw [List.map_map]
               refine congrArg List.sum (List.map_congr_left fun e he=>?_)
               simp only [Function.comp]
               rw [(hWq c hc e he).1,aCb,Int.mul_comm (c.2*e.2)]
             · have ub:=aGx (a:=E) (n:=q.sum) (by omega) (by omega)
               have w0:1≤(E+q.sum - 1).tdiv q.sum:=by rw [←ub.2];exact ub.1
               have ed:(E+q.sum - 1).tdiv q.sum=(E+q.sum - 1) / q.sum:=Int.tdiv_eq_ediv_of_nonneg (by omega)
               have w1:E≤(E+q.sum - 1) / q.sum*q.sum:=by
                 have a1:=Int.lt_mul_ediv_self_add (x:=E+q.sum - 1) (k:=q.sum) (by omega)
                 rw [Int.mul_comm] at a1;omega
               rw [ub.2] at ht0 ⊢
               have b1:=aTq hb0
               have t1:=aTq ht0
               rw [b1.1,t1.1]
               have bd1:(q.sum*1099511627776).tdiv mx=q.sum*1099511627776 / mx:=Int.tdiv_eq_ediv_of_nonneg (by omega)
               have td1:(q.sum*1099511627776).tdiv ((E+q.sum - 1).tdiv q.sum)=q.sum*1099511627776 / ((E+q.sum - 1).tdiv q.sum):=Int.tdiv_eq_ediv_of_nonneg (by omega)
               have bq:=Int.ediv_mul_le (q.sum*1099511627776) (b:=mx) (by omega)
               have tq2:=Int.ediv_mul_le (q.sum*1099511627776) (b:=(E+q.sum - 1).tdiv q.sum) (by omega)
               have bn:0≤q.sum*1099511627776 / mx:=Int.ediv_nonneg (by omega) (by omega)
               have tn:0≤q.sum*1099511627776 / ((E+q.sum - 1).tdiv q.sum):=Int.ediv_nonneg (by omega) (by omega)
               have bl:q.sum*1099511627776 / mx≤q.sum*1099511627776:=Int.ediv_le_self _ (by omega)
               have tl:q.sum*1099511627776 / ((E+q.sum - 1).tdiv q.sum)≤q.sum*1099511627776:=Int.ediv_le_self _ (by omega)
               rw [bd1,td1,aD (by omega) (by omega),aD (by omega) (by omega)]
               refine⟨_,_,rfl,bn,tn,bq,?_⟩
               generalize q.sum*1099511627776 / ((E+q.sum - 1).tdiv q.sum)=t at *
               rw [ed] at tq2
               have a1:=Int.mul_le_mul_of_nonneg_left w1 tn
               have a2:=Int.mul_le_mul_of_nonneg_right tq2 (show 0≤q.sum by omega)
               have a3:t*((E+q.sum - 1) / q.sum*q.sum)=t*((E+q.sum - 1) / q.sum)*q.sum:=by grind
               have a4:q.sum*1099511627776*q.sum=q.sum*q.sum*1099511627776:=by grind
               rw [a3] at a1
               rw [a4] at a2
               exact Int.le_trans a1 a2
             · have a1:=aTq ha0
               rw [a1.1]
               have ua:=aGx (a:=q.sum*1099511627776) (n:=mn) (by omega) (by omega)
               have ed:(q.sum*1099511627776+mn - 1).tdiv mn=(q.sum*1099511627776+mn - 1) / mn:=Int.tdiv_eq_ediv_of_nonneg (by omega)
               have a2:=Int.lt_mul_ediv_self_add (x:=q.sum*1099511627776+mn - 1) (k:=mn) (by omega)
               rw [Int.mul_comm mn] at a2
               refine⟨_,rfl,?_,a1.2⟩
               rw [ua.2,ed]
               omega
theorem bDv {x x':Int×Int} {Q mx E mn B Q' mx' E' mn' B' f g:Int} (h:BV x Q mx E mn B)(h':BV x' Q' mx' E' mn' B')(hf:0≤f)(hg:0≤g)(m1:1≤mx)(e1:1≤E)(n1:1≤mn')
   (p:f*(Q*Q*mn')≤g*(Q'*E)∧f*(Q*mn')≤g*(Q'*mx)) (b:f*(Q*Q*1099511627776)≤g*(B'*E)∧f*(Q*1099511627776)≤g*(B'*mx)):f*x.1≤g*x'.2:=by
 obtain⟨u,t,ex,u0,t0,hu,ht⟩:=h.lo
 obtain⟨a,ey,ha,_⟩:=h'.hi
 have c1:f*u≤g*a:=by
   have s1:=Int.mul_le_mul_of_nonneg_left hu (show 0≤f*mn' from Int.mul_nonneg hf (by omega))
   have s2:=Int.mul_le_mul_of_nonneg_left p.2 (show(0:Int)≤1099511627776 by omega)
   have s3:=Int.mul_le_mul_of_nonneg_left ha (show 0≤g*mx from Int.mul_nonneg hg (by omega))
   have k1:1≤mx*mn':=by have:=Int.mul_le_mul (a:=1) (b:=1) (c:=mx) (d:=mn') m1 n1 (by omega) (by omega);omega
   refine eF k1 ?_
   grind
 have c2:f*t≤g*a:=by
   have s1:=Int.mul_le_mul_of_nonneg_left ht (show 0≤f*mn' from Int.mul_nonneg hf (by omega))
   have s2:=Int.mul_le_mul_of_nonneg_left p.1 (show(0:Int)≤1099511627776 by omega)
   have s3:=Int.mul_le_mul_of_nonneg_left ha (show 0≤g*E from Int.mul_nonneg hg (by omega))
   have k1:1≤E*mn':=by have:=Int.mul_le_mul (a:=1) (b:=1) (c:=E) (d:=mn') e1 n1 (by omega) (by omega);omega
   refine eF k1 ?_
   grind
 have c3:f*u≤g*B':=by
   have s1:=Int.mul_le_mul_of_nonneg_left hu hf
   refine eF m1 ?_
   grind
 have c4:f*t≤g*B':=by
   have s1:=Int.mul_le_mul_of_nonneg_left ht hf
   refine eF e1 ?_
   grind
 rw [ex,ey]
 have i1:=pC u t
 have i2:=tY a B'
 rcases i1.2.2 with k | k<;>rcases i2.2.2 with l | l<;>rw [k,l]<;>assumption
theorem bDw {x:Int×Int} {Q mx E mn B:Int} (h:BV x Q mx E mn B):0≤x.1∧x.2≤1099511627776:=by
 obtain⟨u,t,ex,u0,t0,_⟩:=h.lo
 obtain⟨a,ey,_,ha⟩:=h.hi
 have:=pC u t;have:=tY a B
 omega
theorem bDx {n:Int} (h:0≤n∧n≤400000):(xN n).2=0∧0≤(xN n).1.2∧n*1099511627776≤(xN n).1.2*(xN n).1.2:=by
 obtain⟨r,hr,e⟩:=aRu h
 obtain⟨h0,h1,h2⟩:=hr
 rw [e]
 unfold zK
 have hb:r≤1073741824:=by
   by_cases hc:r≤1073741824
   · exact hc
   · have:=Int.mul_le_mul (show(1073741824:Int)≤r by omega) (show(1073741824:Int)≤r by omega) (by omega) (by omega)
     omega
 have hx:((if r*r=n*1099511627776 then r else r+1)=r∧r*r=n*1099511627776)∨(if r*r=n*1099511627776 then r else r+1)=r+1:=by
   split
   · rename_i c;exact .inl ⟨rfl,c⟩
   · exact .inr rfl
 generalize (if r*r=n*1099511627776 then r else r+1)=s at hx ⊢
 rw [aB5 (by omega) (by omega) (by omega)]
 refine⟨rfl,?_,?_⟩
 · show 0≤s;omega
 · show n*1099511627776≤s*s
   rcases hx with⟨e1,e2⟩ | e1<;>rw [e1]<;>omega
theorem aZx {p x:P3} (hp:bd 64 p)(hx:bd 256 x):dsW p x=ds p x:=by
 unfold bd at hp hx
 have e1:W (p.1 - x.1)=p.1 - x.1:=aD (by omega) (by omega)
 have e2:W (p.2.1 - x.2.1)=p.2.1 - x.2.1:=aD (by omega) (by omega)
 have e3:W (p.2.2 - x.2.2)=p.2.2 - x.2.2:=aD (by omega) (by omega)
 have b1:=bD (a:=320) (b:=320) (x:=p.1 - x.1) (y:=p.1 - x.1) (by omega) (by omega)
 have b2:=bD (a:=320) (b:=320) (x:=p.2.1 - x.2.1) (y:=p.2.1 - x.2.1) (by omega) (by omega)
 have b3:=bD (a:=320) (b:=320) (x:=p.2.2 - x.2.2) (y:=p.2.2 - x.2.2) (by omega) (by omega)
 unfold dsW ds dt sb
 simp only [e1,e2,e3]
 generalize (p.1 - x.1)*(p.1 - x.1)=a at *
 generalize (p.2.1 - x.2.1)*(p.2.1 - x.2.1)=b at *
 generalize (p.2.2 - x.2.2)*(p.2.2 - x.2.2)=c at *
 rw [aD (n:=a) (by omega) (by omega),aD (n:=b) (by omega) (by omega),aD (n:=c) (by omega) (by omega),aD (n:=a+b) (by omega) (by omega),aD (n:=a+b+c) (by omega) (by omega)]
theorem aJg (x:P3):∀(l:List P3)(v:Int),v≤l.foldl (fun v p=>iL v (dsW p x)) v∧∀p∈l,dsW p x≤l.foldl (fun v p=>iL v (dsW p x)) v
 | [],v=>⟨Int.le_refl _,fun s hs=>by cases hs⟩
 | a::l,v=>by
   rw [List.foldl_cons]
   have ih:=aJg x l (iL v (dsW a x))
   have hb:=pC v (dsW a x)
   refine⟨Int.le_trans hb.1 ih.1,fun s hs=>?_⟩
   rcases List.mem_cons.1 hs with rfl | hs
   · exact Int.le_trans hb.2.1 ih.1
   · exact ih.2 s hs
theorem aV3 {m:ME} (h:fB m=0):∀p∈aU m,p.1∈m.1∧p.2.1∈m.1∧p.2.2∈m.1:=by
 intro p hp
 obtain⟨c,hc,rfl⟩:=List.mem_map.1 hp
 obtain⟨i,hi⟩:=List.getElem?_of_mem hc
 obtain⟨hlt,_⟩:=List.getElem?_eq_some_iff.1 hi
 obtain⟨h64,_,_,_,hf⟩:=iF h
 have hfc:=hf (i:Int) (by omega) (by omega)
 rw [bB hi] at hfc
 have hin:inF m.1.length c:=mN (m:=m) (by rw [hfc];rfl) h64
 have mm:∀j:Int,0≤j∧j < (m.1.length:Int)→m.1.getD (toNat j) default∈m.1:=fun j hj=>by
   have hl:toNat j < m.1.length:=by omega
   rw [fO,List.getElem?_eq_getElem hl]
   exact List.getElem_mem hl
 exact⟨mm _ hin.1,mm _ hin.2.1,mm _ hin.2.2⟩
theorem bDy {a b c:Int} (h:a*a+b*b+c*c≤0):a=0∧b=0∧c=0:=by
 have sq:∀x:Int,0≤x*x:=fun x=>by
   rcases Int.le_total 0 x with k | k
   · exact Int.mul_nonneg k k
   · exact Int.mul_nonneg_of_nonpos_of_nonpos k k
 have:=sq a;have:=sq b;have:=sq c
 have z:∀x:Int,x*x≤0→x=0:=fun x hx=>by
   rcases Int.lt_trichotomy x 0 with k | k | k
   · have:=Int.mul_le_mul (a:=1) (b:=1) (c:=-x) (d:=-x) (by omega) (by omega) (by omega) (by omega)
     rw [Int.neg_mul_neg] at this;omega
   · exact k
   · have:=Int.mul_le_mul (a:=1) (b:=1) (c:=x) (d:=x) (by omega) (by omega) (by omega) (by omega)
     omega
 exact⟨z a (by omega),z b (by omega),z c (by omega)⟩
theorem aZy {p c:P3} (h:ds p c≤0):p=c:=by
 unfold ds dt sb at h
 obtain⟨h1,h2,h3⟩:=bDy h
 simp only at h1 h2 h3
 exact Prod.ext (by omega) (Prod.ext (by omega) (by omega))
theorem aTr {m:ME} {q:List Int} {c:P3} {d Q mx E mn:Int} (hC:ChOK m q)(S:Sys (chg m q) d Q mx E mn)(hc:bd 256 c) :
   (tS m c).2=0∧Q*Q*1099511627776≤(tS m c).1*E∧Q*1099511627776≤(tS m c).1*mx:=by
 have hv:=hC.v
 have hpt:=aG8 hv
 have hW:=wE hc m.1 0 hpt (by omega)
 have eB:tS m c=((xN (jC m c)).1.2,(xN (jC m c)).2):=by
   unfold tS
   rw [show fB (m.1,m.2)=0 from hv,wD,wD,wD,bW hc.1,bW hc.2.1,bW hc.2.2]
   show(aB (pI m c) (toNat ((m.1.length:Int) - 0)+1) (0,0))=_
   rw [aG5]
 have L:=bDx (n:=jC m c) hW
 rw [eB]
 refine⟨L.1,?_⟩
 have hd:=(aJg c m.1 0).2
 have hm:∀e∈chg m q,ds e.1.1 c≤jC m c∧ds e.1.2.1 c≤jC m c∧ds e.1.2.2 c≤jC m c:=by
   intro e he
   have hp:=aV3 hv e.1 (List.of_mem_zip he).1
   have one:∀p∈m.1,ds p c≤jC m c:=fun p hp=>by rw [←aZx (hpt p hp) hc];exact hd p hp
   exact⟨one _ hp.1,one _ hp.2.1,one _ hp.2.2⟩
 have h1:1≤jC m c:=by
   rcases Int.lt_or_le 0 (jC m c) with k | k
   · omega
   · exfalso
     have hne:∃e,e∈chg m q:=by
       cases hl:chg m q with
       | nil=>have a:=S.hQ;rw [hl] at a;have b:=S.Q1;exact absurd (show(0:Int)=Q from a) (by omega)
       | cons a l=>exact⟨a,List.mem_cons_self⟩
     obtain⟨e,he⟩:=hne
     have h3:=hm e he
     have hv:=(gE (S.hL e he).1).2
     have e1:=aZy (Int.le_trans h3.1 k);have e2:=aZy (Int.le_trans h3.2.1 k);have e3:=aZy (Int.le_trans h3.2.2 k)
     have hz:lG e.1=(0,0,0):=by
       have s0:sb c c=(0,0,0):=Prod.ext (Int.sub_self _) (Prod.ext (Int.sub_self _) (Int.sub_self _))
       unfold lG;rw [e1,e2,e3,s0];decide
     rw [hz] at hv
     exact absurd hv (by decide)
 have B1:1≤(xN (jC m c)).1.2:=by
   rcases Int.lt_or_le 0 (xN (jC m c)).1.2 with k | k
   · omega
   · exfalso
     have e0:(xN (jC m c)).1.2=0:=by have:=L.2.1;omega
     have:=L.2.2
     rw [e0] at this;omega
 exact aTl S hc hm h1 L.2.2 B1
theorem aV4 {m:ME} {q q':List Int} {d' Q' mx' E' mn':Int} (hC:ChOK m q)(hC':ChOK m q')(S':Sys (chg m q') d' Q' mx' E' mn'):∀e∈chg m q,mn'≤((chg m q').map fun e'=>e'.2*(hG e'.1 (lI (sc d') e.1) d').1).sum:=by
 intro e he
 have hp:=(List.of_mem_zip he).1
 have:∃e'∈chg m q',e'.1=e.1:=by
   obtain⟨i,hi⟩:=List.getElem?_of_mem hp
   obtain⟨hlt,hge⟩:=List.getElem?_eq_some_iff.1 hi
   have hpl:(aU m).length=m.2.length:=List.length_map _
   have hl:i < (chg m q').length:=by
     unfold chg
     rw [List.length_zip];have:=hC'.len;omega
   refine⟨(chg m q')[i],List.getElem_mem hl,?_⟩
   unfold chg
   rw [List.getElem_zip];exact hge
 obtain⟨e',he',eq⟩:=this
 have:=S'.hmn e' he'
 rw [eq] at this
 exact this
theorem aJh {m:ME} {q q':List Int} {d d':Int} (h:(bU m q d).2=0)(h':(bU m q' d').2=0):(bU m q d).1.1≤(bU m q' d').1.2:=by
 obtain⟨hC,Q,mx,E,mn,S,V⟩:=yN h
 obtain⟨hC',Q',mx',E',mn',S',V'⟩:=yN h'
 have p:=aTk S S' (aV4 hC hC' S')
 have hb:=aSq hC.v
 have b:=(aTr hC S (c:=yK (zZ m)) (by unfold bd at hb ⊢;omega)).2
 have:=bDv (f:=1) (g:=1) V V' (by omega) (by omega) S.mx1 S.E1 S'.mn1 (by omega) (by omega)
 omega
theorem aV5 {m:ME} {q:List Int} {d:Int} (h:(bU m q d).2=0):0≤(bU m q d).1.1∧(bU m q d).1.1≤(bU m q d).1.2∧(bU m q d).1.2≤1099511627776:=by
 obtain⟨hC,Q,mx,E,mn,S,V⟩:=yN h
 have:=bDw V
 exact⟨this.1,aJh h h,this.2⟩
def F10:Bool :=
 (bif (((tS (oC.1,oC.2) (0,0,0)).2:Int) == 0) then
  (bif (((tS (oC.1,oC.2) (0,0,0)).1:Int) == 1048576) then
   (bif (((F30 (oC.1,oC.2) 1).2:Int) == 0) then
    (bif (((F30 (oC.1,oC.2) 1).1:Int) == 1280) then
     (bif (((F31 (oC.1,oC.2) 0).2:Int) == 0) then
      (bif (decide (((F31 (oC.1,oC.2) 0).1.1:Int) > 0)) then
       (decide (((F31 (oC.1,oC.2) 0).1.2:Int)≤1048576))
      else
       false)
     else
      false)
    else
     false)
   else
    false)
  else
   false)
 else
  false)
theorem C10:Con Tryz.prog 10 [] [] (.v (.bool F10)) []:=by
 refine aJ Tryz.func10 (by kernel_rfl) fun cx hcx=>?_
 have ho1:oC.1.length=6:=by kernel_rfl
 have ho2:oC.2.length=8:=by kernel_rfl
 let t0:List (St Tryz.prog):=[.c [] (C29),.c [0,1] (C28 (oC.1,oC.2) (0,0,0) (by(try simp only [Lt]);omega) (by(try simp only [Lt]);omega)),.c [] (C29),.c [2,3] (C30 (oC.1,oC.2) 1 (by(try simp only [Lt]);omega) (by(try simp only [Lt]);omega)),.c [] (C29),.c [4,5] (C31 (oC.1,oC.2) 0 (by(try simp only [Lt]);omega) (by(try simp only [Lt]);omega))]
 cases h0:(((tS (oC.1,oC.2) (0,0,0)).2:Int) == 0) with
 | true =>
  have q0:=eq_of_beq h0
  let t1:List (St Tryz.prog):=(t0++[.d h0])
  cases h1:(((tS (oC.1,oC.2) (0,0,0)).1:Int) == 1048576) with
  | true =>
   have q1:=eq_of_beq h1
   let t2:List (St Tryz.prog):=(t1++[.d h1])
   cases h2:(((F30 (oC.1,oC.2) 1).2:Int) == 0) with
   | true =>
    have q2:=eq_of_beq h2
    let t3:List (St Tryz.prog):=(t2++[.d h2])
    cases h3:(((F30 (oC.1,oC.2) 1).1:Int) == 1280) with
    | true =>
     have q3:=eq_of_beq h3
     let t4:List (St Tryz.prog):=(t3++[.d h3])
     cases h4:(((F31 (oC.1,oC.2) 0).2:Int) == 0) with
     | true =>
      have q4:=eq_of_beq h4
      let t5:List (St Tryz.prog):=(t4++[.d h4])
      cases h5:(decide (((F31 (oC.1,oC.2) 0).1.1:Int) > 0)) with
      | true =>
       have q5:=bY h5
       have e:=Eq.refl F10;conv at e=>rhs;simp only [F10,h0,h1,h2,h3,h4,h5,aH]
       rw [e]
       exact rt (t5++[.d h5]) [] [] hcx (by kernel_rfl)
      | false =>
       have q5:=cF h5
       have e:=Eq.refl F10;conv at e=>rhs;simp only [F10,h0,h1,h2,h3,h4,h5,aH]
       rw [e]
       exact rt (t5++[.d h5]) [] [] hcx (by kernel_rfl)
     | false =>
      have q4:=ne_of_beq_false h4
      have e:=Eq.refl F10;conv at e=>rhs;simp only [F10,h0,h1,h2,h3,h4,aH]
      rw [e]
      exact rt (t4++[.d h4]) [] [] hcx (by kernel_rfl)
    | false =>
     have q3:=ne_of_beq_false h3
     have e:=Eq.refl F10;conv at e=>rhs;simp only [F10,h0,h1,h2,h3,aH]
     rw [e]
     exact rt (t3++[.d h3]) [] [] hcx (by kernel_rfl)
   | false =>
    have q2:=ne_of_beq_false h2
    have e:=Eq.refl F10;conv at e=>rhs;simp only [F10,h0,h1,h2,aH]
    rw [e]
    exact rt (t2++[.d h2]) [] [] hcx (by kernel_rfl)
  | false =>
   have q1:=ne_of_beq_false h1
   have e:=Eq.refl F10;conv at e=>rhs;simp only [F10,h0,h1,aH]
   rw [e]
   exact rt (t1++[.d h1]) [] [] hcx (by kernel_rfl)
 | false =>
  have q0:=ne_of_beq_false h0
  have e:=Eq.refl F10;conv at e=>rhs;simp only [F10,h0,aH]
  rw [e]
  exact rt (t0++[.d h0]) [] [] hcx (by kernel_rfl)
def F15 (a0:Int×Int)(a1:Int×Int):Bool :=
 (bif (((F42 a0 a1).2.2:Int) == 0) then
  (F42 a0 a1).2.1
 else
  false)
theorem C15 (a0:Int×Int)(a1:Int×Int):Con Tryz.prog 15 [(.a [(iv a0.1),(iv a0.2)]),(.a [(iv a1.1),(iv a1.2)])] [] (.v (.bool (F15 a0 a1))) []:=by
 refine aJ Tryz.func15 (by kernel_rfl) fun cx hcx=>?_
 let t0:List (St Tryz.prog):=[.c [] (C42 a0 a1)]
 cases h0:(((F42 a0 a1).2.2:Int) == 0) with
 | true =>
  have q0:=eq_of_beq h0
  have e:=Eq.refl (F15 a0 a1);conv at e=>rhs;simp only [F15,h0,aH]
  rw [e]
  exact rt (t0++[.d h0]) [] [] hcx (by kernel_rfl)
 | false =>
  have q0:=ne_of_beq_false h0
  have e:=Eq.refl (F15 a0 a1);conv at e=>rhs;simp only [F15,h0,aH]
  rw [e]
  exact rt (t0++[.d h0]) [] [] hcx (by kernel_rfl)
theorem aZz:F10=true:=by kernel_rfl
theorem aZ0 {a c:Int×Int} (ha:vs a)(hc:vs c)(h1:a.1≤c.2)(h2:c.1≤a.2):F15 a c=true:=by
 have hm:(F42 a c).2.1=true∧(F42 a c).2.2=0:=by
   unfold F42 iZ
   have e1:pG (a,c).1=true:=vN (a:=a.1) (b:=a.2) ha.1 ha.2.1 ha.2.2
   have e2:pG (a,c).2=true:=vN (a:=c.1) (b:=c.2) hc.1 hc.2.1 hc.2.2
   have h3:=ha.2.1;have h4:=hc.2.1
   rw [e1,e2,cK (by(repeat' split)<;>omega)]
   exact⟨rfl,rfl⟩
 unfold F15
 rw [hm.1,hm.2];rfl
theorem aTs {m:ME} {q:List Int} {d:Int} (h:(bU m q d).2=0):vs (bU m q d).1:=by
 have:=aV5 h
 unfold vs;omega
def bFb (g:PN→PN):Prop:=∀p q d,0≤d∧d≤2→vp p=0→vp q=0→vp (g p)=0→vp (g q)=0→uH (g p) (g q) d=uH p q d∧pQ (g p) (g q) d=pQ p q d
section
variable {T φ : P3 → P3} {g : PN → PN}
end
end Go.Proofs.YtaeagjnpobdglaaGreat
namespace Go.Proofs.YtaeagjnpobdglaaGreat
open Go.Proofs Go.Aw Go.RowKit
set_option maxRecDepth 100000
theorem aV6 (m:ME)(q:List Int)(d:Int):nZ m q d=bif (((iX m q d).2:Int) != 0) then(0,(iX m q d).2) else gW (iX m q d).1 q:=by
 obtain⟨m1,m2⟩:=m
 unfold nZ
 dsimp only
 rw [sT]
 cases h:(((iX (m1,m2) q d).2:Int) != 0) with
 | true=>rfl
 | false =>
   obtain⟨h1,h2,h3⟩:=aEv h
   rw [cond_false,cond_false,aNl,aSn h1 h3]
   have key:=aZ (S:=kZ (m1,m2) q d) (fun v i=>(v,i)) (fun v s=>.inl (iL v s.2)) (fun v=>F97 (W (Int.tdiv (cO q) v))) (L:=(iX (m1,m2) q d).1) (v:=0) (n:=toNat ((((iX (m1,m2) q d).1.length:Nat):Int) - 0)+1) (fun _ _=>True) ?_ (fun _ _ _ _ _ _ _=>trivial) ?_ (by omega) trivial
   · refine(Eq.trans key ?_)
     rw [bM];rfl
   · intro i c hc v _
     obtain⟨hlt,hce⟩:=List.getElem?_eq_some_iff.1 hc
     simp only [kZ]
     rw [sT,bW (by omega),cond_true,bB hc];rfl
   · intro v _
     simp only [kZ]
     rw [sT,cK (by omega),cond_false,aG6];rfl
theorem aV7 (m:ME)(q:List Int)(d:Int):qP m q d=bif (((iX m q d).2:Int) != 0) then(0,(iX m q d).2) else gX (iX m q d).1 q:=by
 obtain⟨m1,m2⟩:=m
 unfold qP
 dsimp only
 rw [sT]
 cases h:(((iX (m1,m2) q d).2:Int) != 0) with
 | true=>rfl
 | false =>
   rw [cond_false,cond_false,aNm]
   have key:=aZ (S:=lA (m1,m2) q d) (fun v i=>(v,i)) (fun v s=>.inl (pL v s.1)) (fun v=>F97 (F99 (cO q) v)) (L:=(iX (m1,m2) q d).1) (v:=((iX (m1,m2) q d).1.getD (toNat 0) default).1) (n:=toNat ((((iX (m1,m2) q d).1.length:Nat):Int) - 0)+1) (fun _ _=>True) ?_ (fun _ _ _ _ _ _ _=>trivial) ?_ (by omega) trivial
   · refine(Eq.trans key ?_)
     rw [bM];rfl
   · intro i c hc v _
     obtain⟨hlt,hce⟩:=List.getElem?_eq_some_iff.1 hc
     simp only [lA]
     rw [sT,bW (by omega),cond_true,bB hc];rfl
   · intro v _
     simp only [lA]
     rw [sT,cK (by omega),cond_false,aG6];rfl
theorem aO2 (m:ME)(q:List Int)(d:Int):qQ m q d=bif (((EnV m q d).2:Int) != 0) then(0,(EnV m q d).2) else pJ (EnV m q d).1 q:=by
 obtain⟨m1,m2⟩:=m
 unfold qQ
 dsimp only
 rw [bCy]
 cases h:(((EnV (m1,m2) q d).2:Int) != 0) with
 | true=>rfl
 | false =>
   rw [cond_false,cond_false]
   have h':=h
   unfold EnV at h'
   cases hc:(chD (m1,m2) q d != 0) with
   | true=>rw [hc,cond_true] at h';rw [hc] at h';exact absurd h' (by decide)
   | false =>
     obtain⟨hC,hd⟩:=gJ (bne_eq_false_iff_eq.1 hc)
     have hn:=hC.n;have hl:=hC.len
     unfold pJ F99
     rw [aCy hC.ok hC.pos (by omega),aG6,aNk hC.ok (by omega)]
     rfl
theorem aZ1 {m:ME} {q:List Int} {d:Int} (h:((gF m q d:Int) != 0)=false):iX m q d=bC (bS m d).1 q:=by
 rw [zG] at h
 obtain⟨hc,hd⟩:=gJ (bne_eq_false_iff_eq.1 h)
 have hn:=hc.n;have hl:=hc.len
 unfold iX
 rw [h,cond_false,show(bS m d).1=(aU m).map (fY m d) from by rw [aI0 hc.v hd];rfl]
 exact(aNh (T:=(aU m).map (fY m d)) (q:=q) (fun r hr=>by
     obtain⟨p,_,rfl⟩:=List.mem_map.1 hr
     have hpl:(aU m).length=m.2.length:=List.length_map _
     unfold fY;rw [List.length_map];omega) (by omega)).symm
theorem bDz {m:ME} {q:List Int} {d:Int} (h:((gF m q d:Int) != 0)=false):EnV m q d=cT (cB m d).1 q:=by
 rw [zG] at h
 obtain⟨hc,hd⟩:=gJ (bne_eq_false_iff_eq.1 h)
 have hn:=hc.n;have hl:=hc.len
 have hpl:(aU m).length=m.2.length:=List.length_map _
 unfold EnV
 rw [h,cond_false,show(cB m d).1=MT m d from by rw [aI1 hc.v hd];rfl,aY9 (by omega) (by omega)]
theorem bD0 (m:ME)(q:List Int)(d:Int):bU m q d=gR m q d:=by
 obtain⟨m1,m2⟩:=m
 unfold bU gR
 dsimp only
 rw [aV6,aO2,aV7,←aVn]
 cases hc:((gF (m1,m2) q d:Int) != 0) with
 | true =>
   have e:iX (m1,m2) q d=([],gF (m1,m2) q d):=by
     unfold iX
     rw [←zG,hc,cond_true]
   rw [e]
   simp only [hc,cond_true]
 | false =>
   obtain⟨hv,hd⟩:=aI4 hc
   have hp1:=(oS (m:=(m1,m2)) (by rw [hv];rfl)).1
   rw [aLr hv hd,aZ1 hc,bDz hc,aSo hp1]
   have hB:=aSr hv
   unfold jB
   simp only [cond_false]
   generalize bC (bS (m1,m2) d).1 q=P
   generalize cT (cB (m1,m2) d).1 q=E
   generalize gW P.1 q=b
   generalize gX P.1 q=a
   generalize pJ E.1 q=t
   generalize tS (m1,m2) (yK (zZ (m1,m2)))=B at hB
   rw [hB]
   have h0:(((0:Int)) != 0)=false:=rfl
   cases hP:((P.2:Int) != 0) with
   | true=>simp only [hP,h0,aH]
   | false =>
     cases hb:((b.2:Int) != 0) with
     | true=>simp only [hP,hb,h0,aH]
     | false =>
       cases hE:((E.2:Int) != 0) with
       | true=>simp only [hP,hb,hE,h0,aH]
       | false =>
         cases ht:((t.2:Int) != 0) with
         | true=>simp only [hP,hb,hE,ht,h0,aH]
         | false =>
           cases ha:((a.2:Int) != 0) with
           | true=>simp only [hP,hb,hE,ht,ha,h0,aH]
           | false=>simp only [hP,hb,hE,ht,ha,h0,aH]
def F77 (a0:Int×Int)(a1:Int×Int):Bool×Int :=
 (bif (((iZ (a0,a1)):Int) == 0) then
  (bif (decide ((a0.1:Int)≥a1.1)) then
   ((decide ((a0.2:Int)≤a1.2)),(iZ (a0,a1)))
  else
   (false,(iZ (a0,a1))))
 else
  (false,(iZ (a0,a1))))
theorem C77 (a0:Int×Int)(a1:Int×Int):Con Tryz.prog 77 [(.a [(iv a0.1),(iv a0.2)]),(.a [(iv a1.1),(iv a1.2)])] [] (.t [(.v (.bool (F77 a0 a1).1)),(iv (F77 a0 a1).2)]) []:=by
 refine aJ Tryz.func77 (by kernel_rfl) fun cx hcx=>?_
 let t0:List (St Tryz.prog):=[.c [2] (aWd (a0,a1))]
 cases h0:(((iZ (a0,a1)):Int) == 0) with
 | true =>
  have q0:=eq_of_beq h0
  let t1:List (St Tryz.prog):=(t0++[.d h0])
  cases h1:(decide ((a0.1:Int)≥a1.1)) with
  | true =>
   have q1:=bY h1
   have e:=Eq.refl (F77 a0 a1);conv at e=>rhs;simp only [F77,h0,h1,aH]
   rw [e]
   exact rt (t1++[.d h1]) [] [] hcx (by kernel_rfl)
  | false =>
   have q1:=cF h1
   have e:=Eq.refl (F77 a0 a1);conv at e=>rhs;simp only [F77,h0,h1,aH]
   rw [e]
   exact rt (t1++[.d h1]) [] [] hcx (by kernel_rfl)
 | false =>
  have q0:=ne_of_beq_false h0
  have e:=Eq.refl (F77 a0 a1);conv at e=>rhs;simp only [F77,h0,aH]
  rw [e]
  exact rt (t0++[.d h0]) [] [] hcx (by kernel_rfl)
def V84 (x:Bool×Zt):Value:=bif x.1 then(.iface 87 (.agg [(.int .i64 x.2.1)].toArray)) else(.iface 91 (.agg [(.int .i64 x.2.2.1),(.int .i64 x.2.2.2)].toArray))
def jX (a0:Zm)(a1:List (Int)×Zt):Bool×Zt :=
 (bif (!(pG a1.2.2)) then
  (true,1,(0,0))
 else
  (bif (!(oT a1.2.1 0 2)) then
   (true,1,(0,0))
  else
   (bif (((bU (a0.1,a0.2) a1.1 a1.2.1).2:Int) != 0) then
    (true,(bU (a0.1,a0.2) a1.1 a1.2.1).2,(0,0))
   else
    (bif (!(F77 (bU (a0.1,a0.2) a1.1 a1.2.1).1 a1.2.2).1) then
     (true,12,(0,0))
    else
     (false,0,a1.2.2)))))
theorem C49 (a0:Zm)(a1:List (Int)×Zt)(l0_1:a0.1.length≤9223372036854775807)(l0_2:a0.2.length≤9223372036854775807)(l1_1:a1.1.length≤9223372036854775807):Con Tryz.prog 49 [(.a [(.s 0 0 a0.1.length 3),(.s 1 0 a0.2.length 3)]),(.a [(.s 2 0 a1.1.length 1),(iv a1.2.1),(iv a1.2.2.1),(iv a1.2.2.2)])] [(.live false true (flat dT a0.1)),(.live false true (flat eZ a0.2)),(.live false true (flat c3 a1.1))] (.v (V84 (jX a0 a1))) []:=by
 refine aJ Tryz.func49 (by kernel_rfl) fun cx hcx=>?_
 let t0:List (St Tryz.prog):=[.c [] (C76 a1.2.2)]
 cases h0:(!(pG a1.2.2)) with
 | true =>
  have e:=Eq.refl (jX a0 a1);conv at e=>rhs;simp only [jX,h0,aH]
  rw [e]
  exact rt (t0++[.d h0]) [] [] hcx (by kernel_rfl)
 | false =>
  let t1:List (St Tryz.prog):=(t0++[.d h0,.c [] (C55 a1.2.1 0 2)])
  cases h1:(!(oT a1.2.1 0 2)) with
  | true =>
   have e:=Eq.refl (jX a0 a1);conv at e=>rhs;simp only [jX,h0,h1,aH]
   rw [e]
   exact rt (t1++[.d h1]) [] [] hcx (by kernel_rfl)
  | false =>
   let t2:List (St Tryz.prog):=(t1++[.d h1,.c [0,1,2] (aWr (a0.1,a0.2) a1.1 a1.2.1 (by(try simp only [Lt]);omega) (by(try simp only [Lt]);omega) (by omega))])
   cases h2:(((bU (a0.1,a0.2) a1.1 a1.2.1).2:Int) != 0) with
   | true =>
    have q2:=bne_iff_ne.1 h2
    have e:=Eq.refl (jX a0 a1);conv at e=>rhs;simp only [jX,h0,h1,h2,aH]
    rw [e]
    exact rt (t2++[.d h2]) [] [] hcx (by kernel_rfl)
   | false =>
    have q2:=bne_eq_false_iff_eq.1 h2
    let t3:List (St Tryz.prog):=(t2++[.d h2,.c [] (C77 (bU (a0.1,a0.2) a1.1 a1.2.1).1 a1.2.2)])
    cases h3:(!(F77 (bU (a0.1,a0.2) a1.1 a1.2.1).1 a1.2.2).1) with
    | true =>
     have e:=Eq.refl (jX a0 a1);conv at e=>rhs;simp only [jX,h0,h1,h2,h3,aH]
     rw [e]
     exact rt (t3++[.d h3]) [] [] hcx (by kernel_rfl)
    | false =>
     have e:=Eq.refl (jX a0 a1);conv at e=>rhs;simp only [jX,h0,h1,h2,h3,aH]
     rw [e]
     exact rt (t3++[.d h3]) [] [] hcx (by kernel_rfl)
theorem aTt (a0:Zm)(a1:List (Int)×Zt)(l0_1:a0.1.length≤9223372036854775807)(l0_2:a0.2.length≤9223372036854775807)(l1_1:a1.1.length≤9223372036854775807)(hw:(jX a0 a1).1=true):Con Tryz.prog 49 [(.a [(.s 0 0 a0.1.length 3),(.s 1 0 a0.2.length 3)]),(.a [(.s 2 0 a1.1.length 1),(iv a1.2.1),(iv a1.2.2.1),(iv a1.2.2.2)])] [(.live false true (flat dT a0.1)),(.live false true (flat eZ a0.2)),(.live false true (flat c3 a1.1))] (.v (.iface 87 (.agg [(.int .i64 (jX a0 a1).2.1)].toArray))) []:=by
 have h:=C49 a0 a1 l0_1 l0_2 l1_1
 rw [show V84 (jX a0 a1)=(.iface 87 (.agg [(.int .i64 (jX a0 a1).2.1)].toArray)) from by simp only [V84,hw,cond_true]] at h
 exact h
theorem aTu (a0:Zm)(a1:List (Int)×Zt)(l0_1:a0.1.length≤9223372036854775807)(l0_2:a0.2.length≤9223372036854775807)(l1_1:a1.1.length≤9223372036854775807)(hw:(jX a0 a1).1=false):Con Tryz.prog 49 [(.a [(.s 0 0 a0.1.length 3),(.s 1 0 a0.2.length 3)]),(.a [(.s 2 0 a1.1.length 1),(iv a1.2.1),(iv a1.2.2.1),(iv a1.2.2.2)])] [(.live false true (flat dT a0.1)),(.live false true (flat eZ a0.2)),(.live false true (flat c3 a1.1))] (.v (.iface 91 (.agg [(.int .i64 (jX a0 a1).2.2.1),(.int .i64 (jX a0 a1).2.2.2)].toArray))) []:=by
 have h:=C49 a0 a1 l0_1 l0_2 l1_1
 rw [show V84 (jX a0 a1)=(.iface 91 (.agg [(.int .i64 (jX a0 a1).2.2.1),(.int .i64 (jX a0 a1).2.2.2)].toArray)) from by simp only [V84,hw,cond_false]] at h
 exact h
def F18 (a0:Zm)(a1:List (Int)×Zt):Int :=
 (bif (((fB (a0.1,a0.2)):Int) != 0) then
  (fB (a0.1,a0.2))
 else
  (bif ((jX (a0.1,a0.2) (a1.1,a1.2.1,a1.2.2)).1) then
   (jX (a0.1,a0.2) (a1.1,a1.2.1,a1.2.2)).2.1
  else
   0))
def F19 (a0:Zm)(a1:List (Int)×Zt):Int :=
 (bif (((vU (a0.1,a0.2)):Int) != 0) then
  (vU (a0.1,a0.2))
 else
  (bif (!(F51 a1.2.2)) then
   1
  else
   (bif (!(F52 a1.2.1 0 2)) then
    1
   else
    (bif (((gR (a0.1,a0.2) a1.1 a1.2.1).2:Int) != 0) then
     (gR (a0.1,a0.2) a1.1 a1.2.1).2
    else
     (bif (decide (((gR (a0.1,a0.2) a1.1 a1.2.1).1.1:Int) < a1.2.2.1)) then
      12
     else
      (bif (decide (((gR (a0.1,a0.2) a1.1 a1.2.1).1.2:Int) > a1.2.2.2)) then
       12
      else
       0))))))
theorem C19 (a0:Zm)(a1:List (Int)×Zt)(l0_1:a0.1.length≤9223372036854775807)(l0_2:a0.2.length≤9223372036854775807)(l1_1:a1.1.length≤9223372036854775807):Con Tryz.prog 19 [(.a [(.s 0 0 a0.1.length 3),(.s 1 0 a0.2.length 3)]),(.a [(.s 2 0 a1.1.length 1),(iv a1.2.1),(iv a1.2.2.1),(iv a1.2.2.2)])] [(.live false true (flat dT a0.1)),(.live false true (flat eZ a0.2)),(.live false true (flat c3 a1.1))] (iv (F19 a0 a1)) []:=by
 refine aJ Tryz.func19 (by kernel_rfl) fun cx hcx=>?_
 let t0:List (St Tryz.prog):=[.c [0,1] (C50 (a0.1,a0.2) (by(try simp only [Lt]);omega) (by(try simp only [Lt]);omega))]
 cases h0:(((vU (a0.1,a0.2)):Int) != 0) with
 | true =>
  have q0:=bne_iff_ne.1 h0
  have e:=Eq.refl (F19 a0 a1);conv at e=>rhs;simp only [F19,h0,aH]
  rw [e]
  exact rt (t0++[.d h0]) [] [] hcx (by kernel_rfl)
 | false =>
  have q0:=bne_eq_false_iff_eq.1 h0
  let t1:List (St Tryz.prog):=(t0++[.d h0,.c [] (C51 a1.2.2)])
  cases h1:(!(F51 a1.2.2)) with
  | true =>
   have e:=Eq.refl (F19 a0 a1);conv at e=>rhs;simp only [F19,h0,h1,aH]
   rw [e]
   exact rt (t1++[.d h1]) [] [] hcx (by kernel_rfl)
  | false =>
   let t2:List (St Tryz.prog):=(t1++[.d h1,.c [] (C52 a1.2.1 0 2)])
   cases h2:(!(F52 a1.2.1 0 2)) with
   | true =>
    have e:=Eq.refl (F19 a0 a1);conv at e=>rhs;simp only [F19,h0,h1,h2,aH]
    rw [e]
    exact rt (t2++[.d h2]) [] [] hcx (by kernel_rfl)
   | false =>
    let t3:List (St Tryz.prog):=(t2++[.d h2,.c [0,1,2] (bC3 (a0.1,a0.2) a1.1 a1.2.1 (by(try simp only [Lt]);omega) (by(try simp only [Lt]);omega) (by omega))])
    cases h3:(((gR (a0.1,a0.2) a1.1 a1.2.1).2:Int) != 0) with
    | true =>
     have q3:=bne_iff_ne.1 h3
     have e:=Eq.refl (F19 a0 a1);conv at e=>rhs;simp only [F19,h0,h1,h2,h3,aH]
     rw [e]
     exact rt (t3++[.d h3]) [] [] hcx (by kernel_rfl)
    | false =>
     have q3:=bne_eq_false_iff_eq.1 h3
     let t4:List (St Tryz.prog):=(t3++[.d h3])
     cases h4:(decide (((gR (a0.1,a0.2) a1.1 a1.2.1).1.1:Int) < a1.2.2.1)) with
     | true =>
      have q4:=bY h4
      have e:=Eq.refl (F19 a0 a1);conv at e=>rhs;simp only [F19,h0,h1,h2,h3,h4,aH]
      rw [e]
      exact rt (t4++[.d h4]) [] [] hcx (by kernel_rfl)
     | false =>
      have q4:=cF h4
      let t5:List (St Tryz.prog):=(t4++[.d h4])
      cases h5:(decide (((gR (a0.1,a0.2) a1.1 a1.2.1).1.2:Int) > a1.2.2.2)) with
      | true =>
       have q5:=bY h5
       have e:=Eq.refl (F19 a0 a1);conv at e=>rhs;simp only [F19,h0,h1,h2,h3,h4,h5,aH]
       rw [e]
       exact rt (t5++[.d h5]) [] [] hcx (by kernel_rfl)
      | false =>
       have q5:=cF h5
       have e:=Eq.refl (F19 a0 a1);conv at e=>rhs;simp only [F19,h0,h1,h2,h3,h4,h5,aH]
       rw [e]
       exact rt (t5++[.d h5]) [] [] hcx (by kernel_rfl)
def zI (a0:Zm)(a1:List (Int)×Zt)(a2:List (Int)×Zt):Int×Int :=
 (bif (((fB (a0.1,a0.2)):Int) != 0) then
  (0,(fB (a0.1,a0.2)))
 else
  (bif ((jX (a0.1,a0.2) (a1.1,a1.2.1,a1.2.2)).1) then
   (bif ((jX (a0.1,a0.2) (a2.1,a2.2.1,a2.2.2)).1) then
    (3,0)
   else
    (2,0))
  else
   (bif ((jX (a0.1,a0.2) (a2.1,a2.2.1,a2.2.2)).1) then
    (1,0)
   else
    (0,0))))
theorem C23 (a0:Zm)(a1:List (Int)×Zt)(a2:List (Int)×Zt)(l0_1:a0.1.length≤9223372036854775807)(l0_2:a0.2.length≤9223372036854775807)(l1_1:a1.1.length≤9223372036854775807)(l2_1:a2.1.length≤9223372036854775807):Con Tryz.prog 23 [(.a [(.s 0 0 a0.1.length 3),(.s 1 0 a0.2.length 3)]),(.a [(.s 2 0 a1.1.length 1),(iv a1.2.1),(iv a1.2.2.1),(iv a1.2.2.2)]),(.a [(.s 3 0 a2.1.length 1),(iv a2.2.1),(iv a2.2.2.1),(iv a2.2.2.2)])] [(.live false true (flat dT a0.1)),(.live false true (flat eZ a0.2)),(.live false true (flat c3 a1.1)),(.live false true (flat c3 a2.1))] (.t (k2 (zI a0 a1 a2))) []:=by
 refine aJ Tryz.func23 (by kernel_rfl) fun cx hcx=>?_
 let t0:List (St Tryz.prog):=[.c [0,1] (C35 (a0.1,a0.2) (by(try simp only [Lt]);omega) (by(try simp only [Lt]);omega))]
 cases h0:(((fB (a0.1,a0.2)):Int) != 0) with
 | true =>
  have q0:=bne_iff_ne.1 h0
  have e:=Eq.refl (zI a0 a1 a2);conv at e=>rhs;simp only [zI,h0,aH]
  rw [e]
  exact rt (t0++[.d h0]) [] [] hcx (by kernel_rfl)
 | false =>
  have q0:=bne_eq_false_iff_eq.1 h0
  let t1:List (St Tryz.prog):=(t0++[.d h0])
  cases h1:((jX (a0.1,a0.2) (a1.1,a1.2.1,a1.2.2)).1) with
  | true =>
   let t2:List (St Tryz.prog):=(t1++[.c [0,1,2] (aTt (a0.1,a0.2) (a1.1,a1.2.1,a1.2.2) (by(try simp only [Lt]);omega) (by(try simp only [Lt]);omega) (by(try simp only [Lt]);omega) h1)])
   cases h2:((jX (a0.1,a0.2) (a2.1,a2.2.1,a2.2.2)).1) with
   | true =>
    have e:=Eq.refl (zI a0 a1 a2);conv at e=>rhs;simp only [zI,h0,h1,h2,aH]
    rw [e]
    exact rt (t2++[.c [0,1,3] (aTt (a0.1,a0.2) (a2.1,a2.2.1,a2.2.2) (by(try simp only [Lt]);omega) (by(try simp only [Lt]);omega) (by(try simp only [Lt]);omega) h2)]) [] [] hcx (by kernel_rfl)
   | false =>
    have e:=Eq.refl (zI a0 a1 a2);conv at e=>rhs;simp only [zI,h0,h1,h2,aH]
    rw [e]
    exact rt (t2++[.c [0,1,3] (aTu (a0.1,a0.2) (a2.1,a2.2.1,a2.2.2) (by(try simp only [Lt]);omega) (by(try simp only [Lt]);omega) (by(try simp only [Lt]);omega) h2)]) [] [] hcx (by kernel_rfl)
  | false =>
   let t2:List (St Tryz.prog):=(t1++[.c [0,1,2] (aTu (a0.1,a0.2) (a1.1,a1.2.1,a1.2.2) (by(try simp only [Lt]);omega) (by(try simp only [Lt]);omega) (by(try simp only [Lt]);omega) h1)])
   cases h2:((jX (a0.1,a0.2) (a2.1,a2.2.1,a2.2.2)).1) with
   | true =>
    have e:=Eq.refl (zI a0 a1 a2);conv at e=>rhs;simp only [zI,h0,h1,h2,aH]
    rw [e]
    exact rt (t2++[.c [0,1,3] (aTt (a0.1,a0.2) (a2.1,a2.2.1,a2.2.2) (by(try simp only [Lt]);omega) (by(try simp only [Lt]);omega) (by(try simp only [Lt]);omega) h2)]) [] [] hcx (by kernel_rfl)
   | false =>
    have e:=Eq.refl (zI a0 a1 a2);conv at e=>rhs;simp only [zI,h0,h1,h2,aH]
    rw [e]
    exact rt (t2++[.c [0,1,3] (aTu (a0.1,a0.2) (a2.1,a2.2.1,a2.2.2) (by(try simp only [Lt]);omega) (by(try simp only [Lt]);omega) (by(try simp only [Lt]);omega) h2)]) [] [] hcx (by kernel_rfl)
def F24 (a0:Zm)(a1:List (Int)×Zt)(a2:List (Int)×Zt):Int×Int :=
 (bif (((vU (a0.1,a0.2)):Int) != 0) then
  (0,(vU (a0.1,a0.2)))
 else
  (bif (((F19 (a0.1,a0.2) (a1.1,a1.2.1,a1.2.2)):Int) == 0) then
   (bif (((F19 (a0.1,a0.2) (a2.1,a2.2.1,a2.2.2)):Int) == 0) then
    (0,0)
   else
    (1,0))
  else
   (bif (((F19 (a0.1,a0.2) (a2.1,a2.2.1,a2.2.2)):Int) == 0) then
    (2,0)
   else
    (3,0))))
theorem C24 (a0:Zm)(a1:List (Int)×Zt)(a2:List (Int)×Zt)(l0_1:a0.1.length≤9223372036854775807)(l0_2:a0.2.length≤9223372036854775807)(l1_1:a1.1.length≤9223372036854775807)(l2_1:a2.1.length≤9223372036854775807):Con Tryz.prog 24 [(.a [(.s 0 0 a0.1.length 3),(.s 1 0 a0.2.length 3)]),(.a [(.s 2 0 a1.1.length 1),(iv a1.2.1),(iv a1.2.2.1),(iv a1.2.2.2)]),(.a [(.s 3 0 a2.1.length 1),(iv a2.2.1),(iv a2.2.2.1),(iv a2.2.2.2)])] [(.live false true (flat dT a0.1)),(.live false true (flat eZ a0.2)),(.live false true (flat c3 a1.1)),(.live false true (flat c3 a2.1))] (.t (k2 (F24 a0 a1 a2))) []:=by
 refine aJ Tryz.func24 (by kernel_rfl) fun cx hcx=>?_
 let t0:List (St Tryz.prog):=[.c [0,1] (C50 (a0.1,a0.2) (by(try simp only [Lt]);omega) (by(try simp only [Lt]);omega))]
 cases h0:(((vU (a0.1,a0.2)):Int) != 0) with
 | true =>
  have q0:=bne_iff_ne.1 h0
  have e:=Eq.refl (F24 a0 a1 a2);conv at e=>rhs;simp only [F24,h0,aH]
  rw [e]
  exact rt (t0++[.d h0]) [] [] hcx (by kernel_rfl)
 | false =>
  have q0:=bne_eq_false_iff_eq.1 h0
  let t1:List (St Tryz.prog):=(t0++[.d h0,.c [0,1,2] (C19 (a0.1,a0.2) (a1.1,a1.2.1,a1.2.2) (by(try simp only [Lt]);omega) (by(try simp only [Lt]);omega) (by(try simp only [Lt]);omega)),.c [0,1,3] (C19 (a0.1,a0.2) (a2.1,a2.2.1,a2.2.2) (by(try simp only [Lt]);omega) (by(try simp only [Lt]);omega) (by(try simp only [Lt]);omega))])
  cases h1:(((F19 (a0.1,a0.2) (a1.1,a1.2.1,a1.2.2)):Int) == 0) with
  | true =>
   have q1:=eq_of_beq h1
   let t2:List (St Tryz.prog):=(t1++[.d h1])
   cases h2:(((F19 (a0.1,a0.2) (a2.1,a2.2.1,a2.2.2)):Int) == 0) with
   | true =>
    have q2:=eq_of_beq h2
    have e:=Eq.refl (F24 a0 a1 a2);conv at e=>rhs;simp only [F24,h0,h1,h2,aH]
    rw [e]
    exact rt (t2++[.d h2]) [] [] hcx (by kernel_rfl)
   | false =>
    have q2:=ne_of_beq_false h2
    have e:=Eq.refl (F24 a0 a1 a2);conv at e=>rhs;simp only [F24,h0,h1,h2,aH]
    rw [e]
    exact rt (t2++[.d h2,.d h1]) [] [] hcx (by kernel_rfl)
  | false =>
   have q1:=ne_of_beq_false h1
   let t2:List (St Tryz.prog):=(t1++[.d h1,.d h1])
   cases h2:(((F19 (a0.1,a0.2) (a2.1,a2.2.1,a2.2.2)):Int) == 0) with
   | true =>
    have q2:=eq_of_beq h2
    have e:=Eq.refl (F24 a0 a1 a2);conv at e=>rhs;simp only [F24,h0,h1,h2,aH]
    rw [e]
    exact rt (t2++[.d h2]) [] [] hcx (by kernel_rfl)
   | false =>
    have q2:=ne_of_beq_false h2
    have e:=Eq.refl (F24 a0 a1 a2);conv at e=>rhs;simp only [F24,h0,h1,h2,aH]
    rw [e]
    exact rt (t2++[.d h2]) [] [] hcx (by kernel_rfl)
noncomputable def aJi:Code:=(dW [1,0,1,0,0] [] (aG Tryz.f7)).1
noncomputable def aJj:List K:=(dW [1,0,1,0,0] [] (aG Tryz.f7)).2
def aDf (a0:Zm)(a1:List (Int)×Zt)(a2:List (Int)×Zt):LS:=⟨iH 72 [],[(.live false true (flat dT a0.1)),(.live false true (flat eZ a0.2)),(.live false true (flat c3 a1.1)),(.live false true (flat c3 a2.1))]⟩
def zJ (a0:Zm)(a1:List (Int)×Zt)(a2:List (Int)×Zt):Unit→Bool
 | () =>
  F10
noncomputable def aTv:Code:=(dW [1,1,1,1,0,1,0,0] [] (aG Tryz.f7)).1
noncomputable def aTw:List K:=(dW [1,1,1,1,0,1,0,0] [] (aG Tryz.f7)).2
def aL4 (a0:Zm)(a1:List (Int)×Zt)(a2:List (Int)×Zt):LS:=⟨iH 72 [],[(.live false true (flat dT a0.1)),(.live false true (flat eZ a0.2)),(.live false true (flat c3 a1.1)),(.live false true (flat c3 a2.1))]⟩
def aEz (a0:Zm)(a1:List (Int)×Zt)(a2:List (Int)×Zt):Unit→Bool
 | () =>
  false
theorem aN1 (a0:Zm)(a1:List (Int)×Zt)(a2:List (Int)×Zt)(l0_1:a0.1.length≤9223372036854775807)(l0_2:a0.2.length≤9223372036854775807)(l1_1:a1.1.length≤9223372036854775807)(l2_1:a2.1.length≤9223372036854775807) {cx:Cx} (hcx:cx.base=4):True→Aw.Good Tryz.prog none 9 (bodyPost Tryz.prog Tryz.f7 (RR cx (.v (.bool (zJ a0 a1 a2 ()))) [] [])) cx [] (.c aJi::aJj) (aDf a0 a1 a2):=by
 intro hi
 have e:=Eq.refl (zJ a0 a1 a2 ());conv at e=>rhs;simp only [zJ]
 rw [e]
 exact rt [.c [] (C10)] [] [] hcx (by kernel_rfl)
theorem aWx (a0:Zm)(a1:List (Int)×Zt)(a2:List (Int)×Zt)(l0_1:a0.1.length≤9223372036854775807)(l0_2:a0.2.length≤9223372036854775807)(l1_1:a1.1.length≤9223372036854775807)(l2_1:a2.1.length≤9223372036854775807) {cx:Cx} (hcx:cx.base=4):True→Aw.Good Tryz.prog none 9 (bodyPost Tryz.prog Tryz.f7 (RR cx (.v (.bool (aEz a0 a1 a2 ()))) [] [])) cx [] (.c aTv::aTw) (aL4 a0 a1 a2):=by
 intro hi
 have e:=Eq.refl (aEz a0 a1 a2 ());conv at e=>rhs;simp only [aEz]
 rw [e]
 exact rt [] [] [] hcx (by kernel_rfl)
def F7 (a0:Zm)(a1:List (Int)×Zt)(a2:List (Int)×Zt):Bool :=
 (bif (F9 (a0.1,a0.2) a1.2.1) then
  (zJ a0 a1 a2 ())
 else
  (bif (F9 (a0.1,a0.2) a2.2.1) then
   (zJ a0 a1 a2 ())
  else
   (bif (decide (((a1.1.length:Int):Int) > 300)) then
    (zJ a0 a1 a2 ())
   else
    (bif (decide (((a2.1.length:Int):Int) > 300)) then
     (zJ a0 a1 a2 ())
    else
     (bif (((zI (a0.1,a0.2) (a1.1,a1.2.1,a1.2.2) (a2.1,a2.2.1,a2.2.2)).1:Int) != (F24 (a0.1,a0.2) (a1.1,a1.2.1,a1.2.2) (a2.1,a2.2.1,a2.2.2)).1) then
      (aEz a0 a1 a2 ())
     else
      (bif (((zI (a0.1,a0.2) (a1.1,a1.2.1,a1.2.2) (a2.1,a2.2.1,a2.2.2)).2:Int) != (F24 (a0.1,a0.2) (a1.1,a1.2.1,a1.2.2) (a2.1,a2.2.1,a2.2.2)).2) then
       (aEz a0 a1 a2 ())
      else
       (bif (((zI (a0.1,a0.2) (a1.1,a1.2.1,a1.2.2) (a2.1,a2.2.1,a2.2.2)).2:Int) != 0) then
        F10
       else
        (bif (((zI (a0.1,a0.2) (a1.1,a1.2.1,a1.2.2) (a2.1,a2.2.1,a2.2.2)).1:Int) != 0) then
         F10
        else
         (bif (F15 a1.2.2 a2.2.2) then
          F10
         else
          false)))))))))
theorem C7 (a0:Zm)(a1:List (Int)×Zt)(a2:List (Int)×Zt)(l0_1:a0.1.length≤9223372036854775807)(l0_2:a0.2.length≤9223372036854775807)(l1_1:a1.1.length≤9223372036854775807)(l2_1:a2.1.length≤9223372036854775807):Con Tryz.prog 7 [(.a [(.s 0 0 a0.1.length 3),(.s 1 0 a0.2.length 3)]),(.a [(.s 2 0 a1.1.length 1),(iv a1.2.1),(iv a1.2.2.1),(iv a1.2.2.2)]),(.a [(.s 3 0 a2.1.length 1),(iv a2.2.1),(iv a2.2.2.1),(iv a2.2.2.2)])] [(.live false true (flat dT a0.1)),(.live false true (flat eZ a0.2)),(.live false true (flat c3 a1.1)),(.live false true (flat c3 a2.1))] (.v (.bool (F7 a0 a1 a2))) []:=by
 refine aJ Tryz.func7 (by kernel_rfl) fun cx hcx=>?_
 let t0:List (St Tryz.prog):=[.c [0,1] (C9 (a0.1,a0.2) a1.2.1 (by(try simp only [Lt]);omega) (by(try simp only [Lt]);omega))]
 cases h0:(F9 (a0.1,a0.2) a1.2.1) with
 | true =>
  have e:=Eq.refl (F7 a0 a1 a2);conv at e=>rhs;simp only [F7,h0,aH]
  rw [e]
  refine ga (t0++[.d h0,.z 2]) [] [] [] hcx aJi (aJj) (aDf a0 a1 a2) (by kernel_rfl) ?_
  exact aN1 a0 a1 a2 l0_1 l0_2 l1_1 l2_1 hcx trivial
 | false =>
  let t1:List (St Tryz.prog):=(t0++[.d h0,.c [0,1] (C9 (a0.1,a0.2) a2.2.1 (by(try simp only [Lt]);omega) (by(try simp only [Lt]);omega))])
  cases h1:(F9 (a0.1,a0.2) a2.2.1) with
  | true =>
   have e:=Eq.refl (F7 a0 a1 a2);conv at e=>rhs;simp only [F7,h0,h1,aH]
   rw [e]
   refine ga (t1++[.d h1,.z 2]) [] [] [] hcx aJi (aJj) (aDf a0 a1 a2) (by kernel_rfl) ?_
   exact aN1 a0 a1 a2 l0_1 l0_2 l1_1 l2_1 hcx trivial
  | false =>
   let t2:List (St Tryz.prog):=(t1++[.d h1])
   cases h2:(decide (((a1.1.length:Int):Int) > 300)) with
   | true =>
    have q2:=bY h2
    have e:=Eq.refl (F7 a0 a1 a2);conv at e=>rhs;simp only [F7,h0,h1,h2,aH]
    rw [e]
    refine ga (t2++[.d h2,.z 2]) [] [] [] hcx aJi (aJj) (aDf a0 a1 a2) (by kernel_rfl) ?_
    exact aN1 a0 a1 a2 l0_1 l0_2 l1_1 l2_1 hcx trivial
   | false =>
    have q2:=cF h2
    let t3:List (St Tryz.prog):=(t2++[.d h2])
    cases h3:(decide (((a2.1.length:Int):Int) > 300)) with
    | true =>
     have q3:=bY h3
     have e:=Eq.refl (F7 a0 a1 a2);conv at e=>rhs;simp only [F7,h0,h1,h2,h3,aH]
     rw [e]
     refine ga (t3++[.d h3,.z 2]) [] [] [] hcx aJi (aJj) (aDf a0 a1 a2) (by kernel_rfl) ?_
     exact aN1 a0 a1 a2 l0_1 l0_2 l1_1 l2_1 hcx trivial
    | false =>
     have q3:=cF h3
     let t4:List (St Tryz.prog):=(t3++[.d h3,.c [0,1,2,3] (C23 (a0.1,a0.2) (a1.1,a1.2.1,a1.2.2) (a2.1,a2.2.1,a2.2.2) (by(try simp only [Lt]);omega) (by(try simp only [Lt]);omega) (by(try simp only [Lt]);omega) (by(try simp only [Lt]);omega)),.c [0,1,2,3] (C24 (a0.1,a0.2) (a1.1,a1.2.1,a1.2.2) (a2.1,a2.2.1,a2.2.2) (by(try simp only [Lt]);omega) (by(try simp only [Lt]);omega) (by(try simp only [Lt]);omega) (by(try simp only [Lt]);omega))])
     cases h4:(((zI (a0.1,a0.2) (a1.1,a1.2.1,a1.2.2) (a2.1,a2.2.1,a2.2.2)).1:Int) != (F24 (a0.1,a0.2) (a1.1,a1.2.1,a1.2.2) (a2.1,a2.2.1,a2.2.2)).1) with
     | true =>
      have q4:=bne_iff_ne.1 h4
      have e:=Eq.refl (F7 a0 a1 a2);conv at e=>rhs;simp only [F7,h0,h1,h2,h3,h4,aH]
      rw [e]
      refine ga (t4++[.d h4,.z 6]) [] [] [] hcx aTv (aTw) (aL4 a0 a1 a2) (by kernel_rfl) ?_
      exact aWx a0 a1 a2 l0_1 l0_2 l1_1 l2_1 hcx trivial
     | false =>
      have q4:=bne_eq_false_iff_eq.1 h4
      let t5:List (St Tryz.prog):=(t4++[.d h4])
      cases h5:(((zI (a0.1,a0.2) (a1.1,a1.2.1,a1.2.2) (a2.1,a2.2.1,a2.2.2)).2:Int) != (F24 (a0.1,a0.2) (a1.1,a1.2.1,a1.2.2) (a2.1,a2.2.1,a2.2.2)).2) with
      | true =>
       have q5:=bne_iff_ne.1 h5
       have e:=Eq.refl (F7 a0 a1 a2);conv at e=>rhs;simp only [F7,h0,h1,h2,h3,h4,h5,aH]
       rw [e]
       refine ga (t5++[.d h5,.z 6]) [] [] [] hcx aTv (aTw) (aL4 a0 a1 a2) (by kernel_rfl) ?_
       exact aWx a0 a1 a2 l0_1 l0_2 l1_1 l2_1 hcx trivial
      | false =>
       have q5:=bne_eq_false_iff_eq.1 h5
       let t6:List (St Tryz.prog):=(t5++[.d h5])
       cases h6:(((zI (a0.1,a0.2) (a1.1,a1.2.1,a1.2.2) (a2.1,a2.2.1,a2.2.2)).2:Int) != 0) with
       | true =>
        have q6:=bne_iff_ne.1 h6
        have e:=Eq.refl (F7 a0 a1 a2);conv at e=>rhs;simp only [F7,h0,h1,h2,h3,h4,h5,h6,aH]
        rw [e]
        exact rt (t6++[.d h6,.c [] (C10)]) [] [] hcx (by kernel_rfl)
       | false =>
        have q6:=bne_eq_false_iff_eq.1 h6
        let t7:List (St Tryz.prog):=(t6++[.d h6])
        cases h7:(((zI (a0.1,a0.2) (a1.1,a1.2.1,a1.2.2) (a2.1,a2.2.1,a2.2.2)).1:Int) != 0) with
        | true =>
         have q7:=bne_iff_ne.1 h7
         have e:=Eq.refl (F7 a0 a1 a2);conv at e=>rhs;simp only [F7,h0,h1,h2,h3,h4,h5,h6,h7,aH]
         rw [e]
         exact rt (t7++[.d h7,.c [] (C10)]) [] [] hcx (by kernel_rfl)
        | false =>
         have q7:=bne_eq_false_iff_eq.1 h7
         let t8:List (St Tryz.prog):=(t7++[.d h7,.c [] (C15 a1.2.2 a2.2.2)])
         cases h8:(F15 a1.2.2 a2.2.2) with
         | true =>
          have e:=Eq.refl (F7 a0 a1 a2);conv at e=>rhs;simp only [F7,h0,h1,h2,h3,h4,h5,h6,h7,h8,aH]
          rw [e]
          exact rt (t8++[.d h8,.c [] (C10)]) [] [] hcx (by kernel_rfl)
         | false =>
          have e:=Eq.refl (F7 a0 a1 a2);conv at e=>rhs;simp only [F7,h0,h1,h2,h3,h4,h5,h6,h7,h8,aH]
          rw [e]
          exact rt (t8++[.d h8]) [] [] hcx (by kernel_rfl)
theorem aTx {s:Int×Int} (h:pG s=true):vs s:=by
 unfold pG at h
 unfold vs
 by_cases h1:s.1≥-1099511627776<;>by_cases h2:s.1≤s.2<;>by_cases h3:s.2≤1099511627776<;>simp [h1,h2,h3] at h
 exact⟨by omega,h2,h3⟩
theorem aZ2 {a c:Int×Int} (ha:vs a)(hc:vs c):iZ (a,c)=0:=by
 unfold iZ
 have e1:pG (a,c).1=true:=vN (a:=a.1) (b:=a.2) ha.1 ha.2.1 ha.2.2
 have e2:pG (a,c).2=true:=vN (a:=c.1) (b:=c.2) hc.1 hc.2.1 hc.2.2
 rw [e1,e2];rfl
theorem aTy {a c:Int×Int} (ha:vs a)(hc:vs c):(F77 a c).1=(decide (c.1≤a.1)&&decide (a.2≤c.2)):=by
 unfold F77
 rw [aZ2 ha hc]
 by_cases h1:c.1≤a.1<;>simp [h1]
abbrev CT:=List Int×Zt
theorem aZ3 {m:ME} {c:CT} (h:(jX m c).1=true):(jX m c).2.1≠0:=by
 unfold jX at h ⊢
 cases h1:(!(pG c.2.2)) with
 | true=>simp only [h1,cond_true];decide
 | false =>
   cases h2:(!(oT c.2.1 0 2)) with
   | true=>simp only [h1,h2,aH];decide
   | false =>
     cases h3:(((bU (m.1,m.2) c.1 c.2.1).2:Int) != 0) with
     | true=>simp only [h1,h2,h3,aH];exact bne_iff_ne.1 h3
     | false =>
       cases h4:(!(F77 (bU (m.1,m.2) c.1 c.2.1).1 c.2.2).1) with
       | true=>simp only [h1,h2,h3,h4,aH];decide
       | false=>simp only [h1,h2,h3,h4,cond_false] at h;cases h
theorem wI {m:ME} {c:CT} (h:(jX m c).1=false):(bU m c.1 c.2.1).2=0∧vs c.2.2∧c.2.2.1≤(bU m c.1 c.2.1).1.1∧(bU m c.1 c.2.1).1.2≤c.2.2.2∧jX m c=(false,0,c.2.2):=by
 unfold jX at h ⊢
 cases h1:(!(pG c.2.2)) with
 | true=>simp only [h1,cond_true] at h;cases h
 | false =>
   cases h2:(!(oT c.2.1 0 2)) with
   | true=>simp only [h1,h2,aH] at h;cases h
   | false =>
     cases h3:(((bU (m.1,m.2) c.1 c.2.1).2:Int) != 0) with
     | true=>simp only [h1,h2,h3,aH] at h;cases h
     | false =>
       cases h4:(!(F77 (bU (m.1,m.2) c.1 c.2.1).1 c.2.2).1) with
       | true=>simp only [h1,h2,h3,h4,aH] at h;cases h
       | false =>
         simp only [cond_false]
         have hb:(bU m c.1 c.2.1).2=0:=bne_eq_false_iff_eq.1 h3
         have hs:=aTx (s:=c.2.2) (by simpa using h1)
         rw [show(m.1,m.2)=m from rfl,aTy (aTs hb) hs] at h4
         have h5:decide (c.2.2.1≤(bU m c.1 c.2.1).1.1)=true∧decide ((bU m c.1 c.2.1).1.2≤c.2.2.2)=true:=by simpa using h4
         exact⟨hb,hs,bY h5.1,bY h5.2,trivial⟩
theorem bD1 {m:ME} (hv:fB m=0)(c:CT):F18 m c=(bif (jX m c).1 then(jX m c).2.1 else 0):=by
 unfold F18
 rw [show fB (m.1,m.2)=0 from hv]
 rfl
theorem aWy {m:ME} (hv:fB m=0)(c:CT):((F18 m c:Int) == 0)=!(jX m c).1:=by
 rw [bD1 hv]
 cases h:(jX m c).1 with
 | false=>rfl
 | true =>
   rw [cond_true]
   exact beq_false_of_ne (aZ3 h)
theorem aTz (m:ME)(c:CT):F18 m c=F19 m c:=by
 obtain⟨m1,m2⟩:=m
 obtain⟨q,d,s⟩:=c
 unfold F18 F19
 dsimp only
 rw [show vU (m1,m2)=fB (m1,m2) from(aGm (m1,m2)).symm,←bD0,show F51 s=pG s from rfl,show F52 d 0 2=oT d 0 2 from rfl]
 cases h0:((fB (m1,m2):Int) != 0) with
 | true=>simp only [cond_true]
 | false =>
   simp only [cond_false]
   unfold jX
   dsimp only
   cases h1:pG s with
   | false=>rfl
   | true =>
     cases h2:oT d 0 2 with
     | false=>rfl
     | true =>
       simp only [Bool.not_true,cond_false]
       cases h3:(((bU (m1,m2) q d).2:Int) != 0) with
       | true=>simp only [cond_true]
       | false =>
         have hb:(bU (m1,m2) q d).2=0:=bne_eq_false_iff_eq.1 h3
         simp only [cond_false]
         rw [aTy (aTs hb) (aTx h1)]
         by_cases g1:s.1≤(bU (m1,m2) q d).1.1
         · by_cases g2:(bU (m1,m2) q d).1.2≤s.2
           · rw [bW g1,bW g2,cK (by omega),cK (by omega)];rfl
           · rw [bW g1,cK g2,cK (by omega),bW (by omega)];rfl
         · rw [cK g1,bW (show(bU (m1,m2) q d).1.1 < s.1 by omega)];rfl
theorem aZ4 (m:ME)(a b:CT):zI m a b=F24 m a b:=by
 unfold zI F24
 rw [show vU (m.1,m.2)=fB (m.1,m.2) from(aGm m).symm,←aTz,←aTz]
 cases h0:((fB (m.1,m.2):Int) != 0) with
 | true=>rfl
 | false =>
   have hv:fB m=0:=bne_eq_false_iff_eq.1 h0
   rw [cond_false,cond_false,show((F18 (m.1,m.2) (a.1,a.2.1,a.2.2):Int) == 0)=_ from aWy hv a,show((F18 (m.1,m.2) (b.1,b.2.1,b.2.2):Int) == 0)=_ from aWy hv b]
   show(bif (jX m a).1 then(bif (jX m b).1 then((3,0):Int×Int) else(2,0)) else(bif (jX m b).1 then(1,0) else(0,0)))=_
   cases (jX m a).1<;>cases (jX m b).1<;>rfl
theorem bD2 {m:ME} {a b:CT} (h:(zI m a b).2=0)(h0:(zI m a b).1=0):(jX m a).1=false∧(jX m b).1=false:=by
 unfold zI at h h0
 cases hv:((fB (m.1,m.2):Int) != 0) with
 | true=>simp only [hv,cond_true] at h;rw [h] at hv;cases hv
 | false =>
   simp only [hv,cond_false] at h0
   have h1:(bif (jX m a).1 then(bif (jX m b).1 then((3,0):Int×Int) else(2,0)) else(bif (jX m b).1 then(1,0) else(0,0))).1=0:=h0
   cases ha:(jX m a).1<;>cases hb:(jX m b).1<;>rw [ha,hb] at h1<;>first | exact⟨rfl,rfl⟩ | cases h1
theorem aJk {m:ME} {a b:CT} (ha:(jX m a).1=false)(hb:(jX m b).1=false):a.2.2.1≤b.2.2.2:=by
 obtain⟨a1,a2,a3,a4,_⟩:=wI ha
 obtain⟨b1,b2,b3,b4,_⟩:=wI hb
 have:=aJh a1 b1
 omega
theorem aHs (m:ME)(a b:CT):F7 m a b=true:=by
 unfold F7
 simp only [zJ,aEz,aZz]
 rw [←aZ4,bne_self_eq_false,bne_self_eq_false]
 cases h1:(((zI (m.1,m.2) (a.1,a.2.1,a.2.2) (b.1,b.2.1,b.2.2)).2:Int) != 0) with
 | true=>simp
 | false =>
   cases h2:(((zI (m.1,m.2) (a.1,a.2.1,a.2.2) (b.1,b.2.1,b.2.2)).1:Int) != 0) with
   | true=>simp
   | false =>
     obtain⟨ha,hb⟩:=bD2 (bne_eq_false_iff_eq.1 h1) (bne_eq_false_iff_eq.1 h2)
     rw [aZ0 (wI ha).2.1 (wI hb).2.1 (aJk ha hb) (aJk hb ha)]
     simp
end Go.Proofs.YtaeagjnpobdglaaGreat
