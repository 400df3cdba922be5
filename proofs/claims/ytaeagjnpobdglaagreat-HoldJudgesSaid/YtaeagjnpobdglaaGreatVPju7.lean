/-
  Parts of the proofs of the laws: the executor, what functions of the program compute, and that it is what the statements ask. No premise.
-/
import Derived.Test.YtaeagjnpobdglaaGreatVPju6
set_option linter.unusedVariables false
set_option linter.unusedSimpArgs false
set_option maxHeartbeats 4000000
open Int (toNat)
namespace Go.Proofs.YtaeagjnpobdglaaGreat
open Go.Proofs Go.Aw Go.RowKit
set_option maxRecDepth 100000
def tZ (w:Int)(q:PN)(X:P3):Prop:=∃i j k:Int,0≤i∧0≤j∧0≤k∧i+j+k=w∧X.1=i*q.1.1+j*q.2.1.1+k*q.2.2.1∧X.2.1=i*q.1.2.1+j*q.2.1.2.1+k*q.2.2.2.1∧X.2.2=i*q.1.2.2+j*q.2.1.2.2+k*q.2.2.2.2
theorem aHf {w v:Int} {q:PN} {X Y:P3} (h:tZ w q X)(h':tZ v q Y):tZ (w+v) q (ad X Y):=by
 obtain⟨i,j,k,a1,a2,a3,a4,a5,a6,a7⟩:=h
 obtain⟨i',j',k',b1,b2,b3,b4,b5,b6,b7⟩:=h'
 refine⟨i+i',j+j',k+k',by omega,by omega,by omega,by omega,?_,?_,?_⟩
 · simp only [ad];rw [a5,b5];grind
 · simp only [ad];rw [a6,b6];grind
 · simp only [ad];rw [a7,b7];grind
theorem aI5:∀(d:Nat) {m:Int} {q b:PN},bdP m q→m*2 ^ d≤100000→0≤m→b∈aR d q→tZ (2 ^ d) q b.1∧tZ (2 ^ d) q b.2.1∧tZ (2 ^ d) q b.2.2
 | 0,m,q,b,h,_,_,hx=>by
   simp only [aR,List.mem_singleton] at hx
   subst hx
   exact⟨⟨1,0,0,by simp,by simp,by simp,by simp,by simp,by simp,by simp⟩,⟨0,1,0,by simp,by simp,by simp,by simp,by simp,by simp,by simp⟩,⟨0,0,1,by simp,by simp,by simp,by simp,by simp,by simp,by simp⟩⟩
 | d+1,m,q,b,h,hm,h0,hx=>by
   rw [fY,List.mem_flatMap] at hx
   obtain⟨y,hy,hx⟩:=hx
   have hp:(0:Int) < 2 ^ d:=Int.pow_pos (by omega)
   have hle:m*2 ^ d≤m*2 ^ (d+1):=Int.mul_le_mul_of_nonneg_left (by rw [Int.pow_succ];omega) h0
   have hb:=uZ d h (by omega) h0 hy
   obtain⟨i1,i2,i3⟩:=aI5 d h (by omega) h0 hy
   obtain⟨a1,b1,a2,b2,a3,b3,h1,k1,h2,k2,h3,k3,rfl⟩:=aUf (hb.mono (by omega)) hx
   have key:∀a:P3,(a=y.1∨a=y.2.1∨a=y.2.2)→tZ (2 ^ d) q a:=fun a ha=>by rcases ha with rfl | rfl | rfl<;>assumption
   have e:(2:Int) ^ (d+1)=2 ^ d+2 ^ d:=by rw [Int.pow_succ];omega
   rw [e]
   exact⟨aHf (key _ h1) (key _ k1),aHf (key _ h2) (key _ k2),aHf (key _ h3) (key _ k3)⟩
theorem aNl {q b:PN} {d:Int} (hq:bdP 64 q)(hd:0≤d∧d≤3)(hb:b∈aR d.toNat q):tZ (sc d) q b.1∧tZ (sc d) q b.2.1∧tZ (sc d) q b.2.2:=by
 rcases d4 hd with rfl | rfl | rfl | rfl<;>exact aI5 (m:=64) _ hq (by decide) (by decide) hb
theorem cau (i j k u v t:Int)(hi:0≤i)(hj:0≤j)(hk:0≤k):(i*u+j*v+k*t)*(i*u+j*v+k*t)≤(i+j+k)*(i*(u*u)+j*(v*v)+k*(t*t)):=by
 have h1:=Int.mul_nonneg (Int.mul_nonneg hi hj) (iY (u - v))
 have h2:=Int.mul_nonneg (Int.mul_nonneg hi hk) (iY (u - t))
 have h3:=Int.mul_nonneg (Int.mul_nonneg hj hk) (iY (v - t))
 have e:(i+j+k)*(i*(u*u)+j*(v*v)+k*(t*t)) - (i*u+j*v+k*t)*(i*u+j*v+k*t)=i*j*((u - v)*(u - v))+i*k*((u - t)*(u - t))+j*k*((v - t)*(v - t)):=by grind
 omega
theorem aNm {w M:Int} {q:PN} {X Z:P3} (hw:1≤w)(h:tZ w q X)(h1:ds (tm w q.1) Z≤M)(h2:ds (tm w q.2.1) Z≤M)(h3:ds (tm w q.2.2) Z≤M):ds X Z≤M:=by
 obtain⟨i,j,k,a1,a2,a3,a4,a5,a6,a7⟩:=h
 have c1:=cau i j k (w*q.1.1 - Z.1) (w*q.2.1.1 - Z.1) (w*q.2.2.1 - Z.1) a1 a2 a3
 have c2:=cau i j k (w*q.1.2.1 - Z.2.1) (w*q.2.1.2.1 - Z.2.1) (w*q.2.2.2.1 - Z.2.1) a1 a2 a3
 have c3:=cau i j k (w*q.1.2.2 - Z.2.2) (w*q.2.1.2.2 - Z.2.2) (w*q.2.2.2.2 - Z.2.2) a1 a2 a3
 rw [a4] at c1 c2 c3
 have f1:i*(w*q.1.1 - Z.1)+j*(w*q.2.1.1 - Z.1)+k*(w*q.2.2.1 - Z.1)=w*(X.1 - Z.1):=by rw [a5];subst a4;grind
 have f2:i*(w*q.1.2.1 - Z.2.1)+j*(w*q.2.1.2.1 - Z.2.1)+k*(w*q.2.2.2.1 - Z.2.1)=w*(X.2.1 - Z.2.1):=by rw [a6];subst a4;grind
 have f3:i*(w*q.1.2.2 - Z.2.2)+j*(w*q.2.1.2.2 - Z.2.2)+k*(w*q.2.2.2.2 - Z.2.2)=w*(X.2.2 - Z.2.2):=by rw [a7];subst a4;grind
 rw [f1] at c1;rw [f2] at c2;rw [f3] at c3
 have g1:=Int.mul_le_mul_of_nonneg_left h1 a1;have g2:=Int.mul_le_mul_of_nonneg_left h2 a2;have g3:=Int.mul_le_mul_of_nonneg_left h3 a3
 have e:w*w*ds X Z≤w*w*M:=by
   have e1:w*w*ds X Z=w*(X.1 - Z.1)*(w*(X.1 - Z.1))+w*(X.2.1 - Z.2.1)*(w*(X.2.1 - Z.2.1))+w*(X.2.2 - Z.2.2)*(w*(X.2.2 - Z.2.2)):=by unfold ds dt sb;grind
   have e2:w*(i*ds (tm w q.1) Z+j*ds (tm w q.2.1) Z+k*ds (tm w q.2.2) Z)=w*(i*((w*q.1.1 - Z.1)*(w*q.1.1 - Z.1))+j*((w*q.2.1.1 - Z.1)*(w*q.2.1.1 - Z.1))+k*((w*q.2.2.1 - Z.1)*(w*q.2.2.1 - Z.1)))+w*(i*((w*q.1.2.1 - Z.2.1)*(w*q.1.2.1 - Z.2.1))+j*((w*q.2.1.2.1 - Z.2.1)*(w*q.2.1.2.1 - Z.2.1))+k*((w*q.2.2.2.1 - Z.2.1)*(w*q.2.2.2.1 - Z.2.1)))+w*(i*((w*q.1.2.2 - Z.2.2)*(w*q.1.2.2 - Z.2.2))+j*((w*q.2.1.2.2 - Z.2.2)*(w*q.2.1.2.2 - Z.2.2))+k*((w*q.2.2.2.2 - Z.2.2)*(w*q.2.2.2.2 - Z.2.2))):=by unfold ds dt sb tm;grind
   have e3:w*(i*ds (tm w q.1) Z+j*ds (tm w q.2.1) Z+k*ds (tm w q.2.2) Z)≤w*(i*M+j*M+k*M):=Int.mul_le_mul_of_nonneg_left (by omega) (by omega)
   have e4:w*(i*M+j*M+k*M)=w*w*M:=by
     rw [show i*M+j*M+k*M=(i+j+k)*M by grind,a4];grind
   omega
 exact Int.le_of_mul_le_mul_left e (Int.mul_pos (by omega) (by omega))
theorem aLs {w M lo:Int} {A B C i j k:Int} (hi:0≤i)(hj:0≤j)(hk:0≤k)(hw:i+j+k=w)(hw1:1≤w)(h1:w*A≤M∧lo≤w*A)(h2:w*B≤M∧lo≤w*B)(h3:w*C≤M∧lo≤w*C):lo≤i*A+j*B+k*C∧i*A+j*B+k*C≤M:=by
 have e:w*(i*A+j*B+k*C)=i*(w*A)+j*(w*B)+k*(w*C):=by grind
 have l1:=Int.mul_le_mul_of_nonneg_left h1.1 hi;have l2:=Int.mul_le_mul_of_nonneg_left h2.1 hj;have l3:=Int.mul_le_mul_of_nonneg_left h3.1 hk
 have m1:=Int.mul_le_mul_of_nonneg_left h1.2 hi;have m2:=Int.mul_le_mul_of_nonneg_left h2.2 hj;have m3:=Int.mul_le_mul_of_nonneg_left h3.2 hk
 have e1:i*M+j*M+k*M=w*M:=by rw [←hw];grind
 have e2:i*lo+j*lo+k*lo=w*lo:=by rw [←hw];grind
 exact⟨Int.le_of_mul_le_mul_left (a:=w) (by omega) (by omega),Int.le_of_mul_le_mul_left (a:=w) (by omega) (by omega)⟩
theorem aDa {w:Int} {q:PN} {X:P3} (hw:1≤w)(h:tZ w q X):((oH (lF w q)).1≤X.1∧X.1≤(oI (lF w q)).1)∧((oH (lF w q)).2.1≤X.2.1∧X.2.1≤(oI (lF w q)).2.1)∧((oH (lF w q)).2.2≤X.2.2∧X.2.2≤(oI (lF w q)).2.2):=by
 obtain⟨i,j,k,a1,a2,a3,a4,a5,a6,a7⟩:=h
 have i1:=in3 (c:=lF w q) (a:=tm w q.1) (Or.inl rfl);have i2:=in3 (c:=lF w q) (a:=tm w q.2.1) (Or.inr (Or.inl rfl));have i3:=in3 (c:=lF w q) (a:=tm w q.2.2) (Or.inr (Or.inr rfl))
 simp only [tm] at i1 i2 i3
 rw [a5,a6,a7]
 exact⟨aLs a1 a2 a3 a4 hw ⟨i1.2.1,i1.1⟩ ⟨i2.2.1,i2.1⟩ ⟨i3.2.1,i3.1⟩,aLs a1 a2 a3 a4 hw ⟨i1.2.2.2.1,i1.2.2.1⟩ ⟨i2.2.2.2.1,i2.2.2.1⟩ ⟨i3.2.2.2.1,i3.2.2.1⟩,aLs a1 a2 a3 a4 hw ⟨i1.2.2.2.2.2,i1.2.2.2.2.1⟩ ⟨i2.2.2.2.2.2,i2.2.2.2.2.1⟩ ⟨i3.2.2.2.2.2,i3.2.2.2.2.1⟩⟩
theorem aVh (c q:PN) {a b:P3} (ha:a=c.1∨a=c.2.1∨a=c.2.2)(hb:b=q.1∨b=q.2.1∨b=q.2.2):ds a b≤fa3 c q:=by
 unfold fa3
 have t1:=fun m (h:ds a b≤m) (n:Int)=>Int.le_trans h (dG m n)
 rcases ha with rfl | rfl | rfl<;>rcases hb with rfl | rfl | rfl<;>first | exact kL _ _ | (refine Int.le_trans ?_ (dG _ _);first | exact kL _ _ | (refine Int.le_trans ?_ (dG _ _);first | exact kL _ _ | (refine Int.le_trans ?_ (dG _ _);first | exact kL _ _ | (refine Int.le_trans ?_ (dG _ _);first | exact kL _ _ | (refine Int.le_trans ?_ (dG _ _);first | exact kL _ _ | (refine Int.le_trans ?_ (dG _ _);first | exact kL _ _ | (refine Int.le_trans ?_ (dG _ _);first | exact kL _ _ | (refine Int.le_trans ?_ (dG _ _);exact kL _ _))))))))
section
variable {q a b : PN} {d : Int}
theorem aS4 (hq:bdP 64 q)(hd:0≤d∧d≤3)(hb:b∈aR d.toNat q):uB a (lF (sc d) q)≤uB a b:=by
 obtain⟨h1,h2,h3⟩:=aNl hq hd hb
 have hw:=(aMq d).1
 have x1:=aDa hw h1;have x2:=aDa hw h2;have x3:=aDa hw h3
 have key:∀u v w m:Int,m≤u→m≤v→m≤w→m≤zI u v w:=fun u v w m e1 e2 e3=>by rcases aF3 u v w with e | e | e<;>rw [e]<;>assumption
 have key2:∀u v w m:Int,u≤m→v≤m→w≤m→zJ u v w≤m:=fun u v w m e1 e2 e3=>by rcases aF4 u v w with e | e | e<;>rw [e]<;>assumption
 have gm:∀e f l h l' h':Int,l≤l'→h'≤h→gp e f l h*gp e f l h≤gp e f l' h'*gp e f l' h':=by
   intro e f l h l' h' e1 e2
   have:gp e f l h≤gp e f l' h':=by unfold gp mx;(repeat' split)<;>omega
   exact Int.mul_le_mul this this (aBy _ _ _ _) (aBy _ _ _ _)
 have g1:=gm (oH a).1 (oI a).1 _ _ _ _ (key _ _ _ _ x1.1.1 x2.1.1 x3.1.1) (key2 _ _ _ _ x1.1.2 x2.1.2 x3.1.2)
 have g2:=gm (oH a).2.1 (oI a).2.1 _ _ _ _ (key _ _ _ _ x1.2.1.1 x2.2.1.1 x3.2.1.1) (key2 _ _ _ _ x1.2.1.2 x2.2.1.2 x3.2.1.2)
 have g3:=gm (oH a).2.2 (oI a).2.2 _ _ _ _ (key _ _ _ _ x1.2.2.1 x2.2.2.1 x3.2.2.1) (key2 _ _ _ _ x1.2.2.2 x2.2.2.2 x3.2.2.2)
 exact Int.add_le_add (Int.add_le_add g1 g2) g3
end
def fB (d:Int):Int:=sc (2 - d)
theorem aHg {d:Int} (h:0≤d∧d≤2):fB d*sc d=4∧1≤fB d∧fB d≤4:=by
 have:d=0∨d=1∨d=2:=by omega
 rcases this with rfl | rfl | rfl<;>decide
noncomputable def aHh (d R:Int)(w:Rat)(c:PN):CapT.Tri:=⟨tm (fB d) c.1,tm (fB d) c.2.1,tm (fB d) c.2.2,w,(c,R)⟩
noncomputable def chs (d:Int)(L:List (PN×Int)):List CapT.Tri:=L.flatMap fun e=>(aR d.toNat e.1).map (aHh d (bW e.1 d) ((e.2:Int):Rat))
def uu:Rat:=1 / 4194304
theorem aS5:uu*uu*17592186044416=1:=by unfold uu;decide +kernel
theorem aDb:0 < uu:=by unfold uu;decide +kernel
theorem qO {α:Type} (g:α→Int):∀l:List α,CapT.ls l (fun a=>((g a:Int):Rat))=(((l.map g).sum:Int):Rat)
 | []=>rfl
 | a::l=>by rw [CapT.ls,qO g l,List.map_cons,List.sum_cons,CapT.rcast_add]
theorem mO {d:Int} {L:List (PN×Int)} {t:CapT.Tri} (h:t∈chs d L):∃e,e∈L∧∃c,c∈aR d.toNat e.1∧t=aHh d (bW e.1 d) ((e.2:Int):Rat) c:=by
 obtain⟨e,he,h⟩:=List.mem_flatMap.1 h
 obtain⟨c,hc,rfl⟩:=List.mem_map.1 h
 exact⟨e,he,c,hc,rfl⟩
theorem aHi {d:Int} {L:List (PN×Int)} (f:CapT.Tri→Rat):CapT.ls (chs d L) f=CapT.ls L (fun e=>CapT.ls (aR d.toNat e.1) (fun c=>f (aHh d (bW e.1 d) ((e.2:Int):Rat) c))):=by
 unfold chs
 rw [CapT.ls_flat]
 refine CapT.ls_congr (fun e _=>?_)
 rw [CapT.ls_map]
def nC (L:List (PN×Int)):Int:=(L.map (·.2)).sum
theorem aHj {d:Int} (hd:0≤d∧d≤2)(L:List (PN×Int)):CapT.tot (chs d L)=((sc d*sc d*nC L:Int):Rat):=by
 unfold CapT.tot
 rw [aHi]
 have h1:CapT.ls L (fun e=>CapT.ls (aR d.toNat e.1) (fun c=>(aHh d (bW e.1 d) ((e.2:Int):Rat) c).q))=CapT.ls L (fun e=>((sc d*sc d:Int):Rat)*((e.2:Int):Rat)):=by
   refine CapT.ls_congr (fun e _=>?_)
   have hl:=mK (d:=d) (by omega) e.1
   show CapT.ls (aR d.toNat e.1) (fun _=>((e.2:Int):Rat))=_
   rw [←hl]
   clear hl
   generalize aR d.toNat e.1=l
   induction l with
   | nil=>show(0:Rat)=_;rw [show(((([]:List PN).length:Nat):Int):Rat)=0 from rfl];grind
   | cons c l ih =>
     rw [CapT.ls,ih,List.length_cons,show((l.length+1:Nat):Int)=(l.length:Int)+1 by omega,CapT.rcast_add]
     rw [show((1:Int):Rat)=1 from rfl]
     grind
 rw [h1,CapT.ls_mul,qO (fun e:PN×Int=>e.2),←CapT.rcast_mul]
 rfl
noncomputable def aDu (d:Int)(L:List (PN×Int)):Int:=(L.map fun e'=>((aR d.toNat e'.1).map fun b=>e'.2*(L.map fun e=>((aR d.toNat e.1).map fun c=>e.2*rZ (bW e.1 d) d b c).sum).sum).sum).sum
noncomputable def PLs (d:Int)(L:List (PN×Int))(p:PN):Int:=(L.map fun e=>((aR d.toNat e.1).map fun c=>e.2*bLo d (lF (sc d) p) c).sum).sum
noncomputable def hcap (d:Int)(t t':CapT.Tri):Rat:=((rZ t.o.2 d t'.o.1 t.o.1:Int):Rat)*uu
theorem bC8 (d:Int)(L:List (PN×Int)):CapT.ls (chs d L) (fun t'=>t'.q*CapT.ls (chs d L) (fun t=>t.q*hcap d t t'))=((aDu d L:Int):Rat)*uu:=by
 have inner:∀t':CapT.Tri,CapT.ls (chs d L) (fun t=>t.q*hcap d t t')=uu*(((L.map fun e=>((aR d.toNat e.1).map fun c=>e.2*rZ (bW e.1 d) d t'.o.1 c).sum).sum:Int):Rat):=by
   intro t'
   rw [aHi,←qO,←CapT.ls_mul]
   refine CapT.ls_congr (fun e _=>?_)
   rw [←qO,←CapT.ls_mul]
   refine CapT.ls_congr (fun c _=>?_)
   rw [CapT.rcast_mul]
   show((e.2:Int):Rat)*(((rZ (bW e.1 d) d t'.o.1 c:Int):Rat)*uu)=_
   grind
 rw [aHi]
 unfold aDu
 have e2:∀x:Rat,x*uu=uu*x:=fun x=>by grind
 rw [e2,←qO,←CapT.ls_mul]
 refine CapT.ls_congr (fun e' _=>?_)
 rw [←qO,←CapT.ls_mul]
 refine CapT.ls_congr (fun b _=>?_)
 rw [inner,CapT.rcast_mul]
 have hx:∀x y:Rat,x*(uu*y)=uu*(x*y):=fun x y=>by grind
 exact hx _ _
theorem bEs (d:Int)(L:List (PN×Int))(p:PN):CapT.ls (chs d L) (fun s=>s.q*(((bLo d (lF (sc d) p) s.o.1:Int):Rat)*uu))=((PLs d L p:Int):Rat)*uu:=by
 rw [aHi]
 unfold PLs
 have e2:∀x:Rat,x*uu=uu*x:=fun x=>by grind
 rw [e2,←qO,←CapT.ls_mul]
 refine CapT.ls_congr (fun e _=>?_)
 rw [←qO,←CapT.ls_mul]
 refine CapT.ls_congr (fun c _=>?_)
 rw [CapT.rcast_mul]
 show((e.2:Int):Rat)*(((bLo d (lF (sc d) p) c:Int):Rat)*uu)=_
 grind
theorem aLt {d R:Int} (hd:0≤d∧d≤2) {w:Rat} {p c:PN} (hp:vp p=0)(hc:c∈aR d.toNat p):CapT.tin (2048:Nat) (aHh d R w c):=by
 have h1:=oJ (gD hp).1 (by omega) hc
 have h2:=aHg hd
 have key:∀x:P3,bd 512 x→CapT.inb ((2048:Nat):Int) (tm (fB d) x):=by
   intro x hx
   have a1:=bD (a:=4) (b:=512) (x:=fB d) (y:=x.1) (by omega) hx.1
   have a2:=bD (a:=4) (b:=512) (x:=fB d) (y:=x.2.1) (by omega) hx.2.1
   have a3:=bD (a:=4) (b:=512) (x:=fB d) (y:=x.2.2) (by omega) hx.2.2
   unfold CapT.inb tm
   simp only
   omega
 exact⟨key _ h1.1,key _ h1.2.1,key _ h1.2.2⟩
theorem bC9 {H F:Int} (h:17592186044416≤H*H*F):1≤((H:Int):Rat)*uu*(((H:Int):Rat)*uu)*((F:Int):Rat):=by
 have h1:=CapT.rcast_le h
 rw [CapT.rcast_mul,CapT.rcast_mul] at h1
 have h2:=CapT.rmul_le' h1 (CapT.sq_nonneg uu)
 have h3:uu*uu*((17592186044416:Int):Rat)=1:=aS5
 rw [h3] at h2
 grind
theorem aY6 {H F:Int} (h:H*H*F≤17592186044416):((H:Int):Rat)*uu*(((H:Int):Rat)*uu)*((F:Int):Rat)≤1:=by
 have h1:=CapT.rcast_le h
 rw [CapT.rcast_mul,CapT.rcast_mul] at h1
 have h2:=CapT.rmul_le' h1 (CapT.sq_nonneg uu)
 have h3:uu*uu*((17592186044416:Int):Rat)=1:=aS5
 rw [h3] at h2
 grind
theorem aWe {d:Int} (hd:0≤d∧d≤2):NN (sc d)*(fB d*fB d)=17592186044416:=by
 have:d=0∨d=1∨d=2:=by omega
 rcases this with rfl | rfl | rfl<;>decide
theorem aS6 (g a b c x y z:Int)(hg:0≤g):CapT.gapc (g*x) (g*y) (g*z) (g*a) (g*b) (g*c) (g*gp (zI a b c) (zJ a b c) (zI x y z) (zJ x y z)):=by
 have l1:=lT a b c;have l2:=lT x y z
 have h1:=lU a b c;have h2:=lU x y z
 have hm:∀u v w:Int,u+w≤v→g*u+g*w≤g*v:=by
   intro u v w h
   have:=Int.mul_le_mul_of_nonneg_left h hg
   rw [Int.mul_add] at this
   exact this
 have hc:gp (zI a b c) (zJ a b c) (zI x y z) (zJ x y z)=0∨gp (zI a b c) (zJ a b c) (zI x y z) (zJ x y z)=zI x y z - zJ a b c∨gp (zI a b c) (zJ a b c) (zI x y z) (zJ x y z)=zI a b c - zJ x y z:=by
   unfold gp mx;repeat' split
   all_goals omega
 generalize gp (zI a b c) (zJ a b c) (zI x y z) (zJ x y z)=G at *
 unfold CapT.gapc
 rcases hc with hc | hc | hc
 · left;rw [hc,Int.mul_zero]
 · right;right
   intro p hp q hq
   simp only [List.mem_cons,List.not_mem_nil,or_false] at hp hq
   rcases hp with rfl | rfl | rfl<;>rcases hq with rfl | rfl | rfl<;>exact hm _ _ _ (by omega)
 · right;left
   intro p hp q hq
   simp only [List.mem_cons,List.not_mem_nil,or_false] at hp hq
   rcases hp with rfl | rfl | rfl<;>rcases hq with rfl | rfl | rfl<;>exact hm _ _ _ (by omega)
theorem aVi {p:PN} {d:Int} (hp:vp p=0)(hd:0≤d∧d≤3):∃r,1≤r∧r*r≤dt (lD p) (lD p)∧rY d≤bW p d*bW p d*(128*r)∧1≤bW p d:=by
 obtain⟨r,hr,r1,r2,hu,hb⟩:=vG hp hd
 have ht:=aJ9 d
 obtain⟨c1,_⟩:=qH (t:=rY d) (b:=128*r) (by omega)
 have c2:=Int.mul_le_mul_of_nonneg_right hu.2.1 (show 0≤128*r by omega)
 refine⟨r,r1,hr.2.1,Int.le_trans c1 c2,?_⟩
 rcases Int.lt_or_le 0 (bW p d) with h | h
 · exact h
 · have h0:bW p d=0:=Int.le_antisymm h hu.1
   rw [h0] at c2
   omega
theorem aY7 {d:Int} (hd:0≤d∧d≤2):rY d*(fB d*fB d)=3217*17592186044416:=by
 have:d=0∨d=1∨d=2:=by omega
 rcases this with rfl | rfl | rfl<;>decide
theorem aI6 {d:Int} (hd:0≤d∧d≤2) {L:List (PN×Int)} (hL:∀e∈L,vp e.1=0∧0≤e.2):∀t,t∈chs d L→∀t',t'∈chs d L→0 < hcap d t t'∧((∃f:Int,1≤f∧1≤hcap d t t'*hcap d t t'*(f:Rat)∧CapT.nearT t' t f)∨CapT.rimT t (hcap d t t')):=by
 intro t ht t' ht'
 obtain⟨e,he,c,hc,rfl⟩:=mO ht
 obtain⟨e',he',b,hb,rfl⟩:=mO ht'
 have hp:=(hL e he).1
 have hg:=aHg hd
 obtain⟨r,r1,r2,r3,R1⟩:=aVi hp (d:=d) (by omega)
 have hb1:=aWe hd
 show 0 < ((rZ (bW e.1 d) d b c:Int):Rat)*uu∧((∃f:Int,1≤f∧1≤((rZ (bW e.1 d) d b c:Int):Rat)*uu*(((rZ (bW e.1 d) d b c:Int):Rat)*uu)*(f:Rat)∧CapT.nearT _ _ f)∨CapT.rimT _ (((rZ (bW e.1 d) d b c:Int):Rat)*uu))
 have rimcase:CapT.rimT (aHh d (bW e.1 d) ((e.2:Int):Rat) c) (((bW e.1 d:Int):Rat)*uu):=by
   have hn:=aKe (gD hp).1 (d:=d) (by omega) hc
   have hrr:1≤r*(fB d*fB d):=by
     have:=Int.mul_le_mul (a:=1) (b:=1) (c:=r) (d:=fB d*fB d) r1 (by have:=Int.mul_le_mul (a:=1) (b:=1) (c:=fB d) (d:=fB d) hg.2.1 hg.2.1 (by omega) (by omega);omega) (by omega) (by omega)
     omega
   refine⟨toNat (r*(fB d*fB d)),by omega,?_,?_,?_⟩
   · rw [Int.toNat_of_nonneg (by omega)]
     have e1:CapT.nsq (CapT.cr (CapT.vs (tm (fB d) c.2.1) (tm (fB d) c.1)) (CapT.vs (tm (fB d) c.2.2) (tm (fB d) c.1)))=(fB d*fB d)*(fB d*fB d)*dt (lD c) (lD c):=by
       simp only [CapT.nsq,CapT.cr,CapT.vs,tm,dt,lD,cr,sb]
       grind
     show _≤CapT.nsq (CapT.cr (CapT.vs (tm (fB d) c.2.1) (tm (fB d) c.1)) (CapT.vs (tm (fB d) c.2.2) (tm (fB d) c.1)))
     rw [e1,hn]
     have:=Int.mul_le_mul_of_nonneg_left r2 (show 0≤(fB d*fB d)*(fB d*fB d) from CapT.sq_int_nonneg _)
     grind
   · show 0 < CapT.nsq (CapT.vs (tm (fB d) c.2.1) (tm (fB d) c.1))
     have h0:=CapT.nsq_nonneg (CapT.vs (tm (fB d) c.2.1) (tm (fB d) c.1))
     have e1:CapT.nsq (CapT.vs (tm (fB d) c.2.1) (tm (fB d) c.1))=(fB d*fB d)*dt (sb c.2.1 c.1) (sb c.2.1 c.1):=by
       simp only [CapT.nsq,CapT.vs,tm,dt,sb]
       grind
     have l1:=CapT.lagr' (sb c.2.1 c.1) (sb c.2.2 c.1)
     have l2:=CapT.lagrC (sb c.2.2 c.1) (sb c.2.1 c.1)
     have n1:1≤dt (lD c) (lD c):=by rw [hn];exact(gD hp).2
     have e2:CapT.nsq (CapT.cr (sb c.2.2 c.1) (sb c.2.1 c.1))=dt (lD c) (lD c):=by
       simp only [CapT.nsq,CapT.cr,dt,lD,cr]
       grind
     have e3:CapT.nsq (sb c.2.1 c.1)=dt (sb c.2.1 c.1) (sb c.2.1 c.1):=rfl
     rw [e2,e3] at l2
     have s0:=CapT.sq_int_nonneg (CapT.dt (sb c.2.2 c.1) (sb c.2.1 c.1))
     have p1:1≤dt (sb c.2.1 c.1) (sb c.2.1 c.1):=by
       rcases Int.lt_or_le 0 (dt (sb c.2.1 c.1) (sb c.2.1 c.1)) with h | h
       · exact h
       · have hz:dt (sb c.2.1 c.1) (sb c.2.1 c.1)=0:=Int.le_antisymm h (by rw [←e3];exact CapT.nsq_nonneg _)
         rw [hz] at l2
         omega
     rw [e1]
     exact Int.mul_pos (Int.mul_pos (by omega) (by omega)) (by omega)
   · rw [Int.toNat_of_nonneg (by omega)]
     have t1:=aY7 hd
     have t2:=Int.mul_le_mul_of_nonneg_right r3 (show 0≤fB d*fB d from CapT.sq_int_nonneg _)
     rw [t1] at t2
     have t3:3217*17592186044416≤bW e.1 d*bW e.1 d*(128*(r*(fB d*fB d))):=by grind
     have t4:=CapT.rcast_le t3
     rw [CapT.rcast_mul,CapT.rcast_mul (bW e.1 d*bW e.1 d),CapT.rcast_mul,CapT.rcast_mul 128] at t4
     have c1:((3217:Int):Rat)=3217:=rfl
     have c2:((17592186044416:Int):Rat)=17592186044416:=rfl
     have c3:((128:Int):Rat)=128:=rfl
     rw [c1,c2,c3] at t4
     have t5:=CapT.rmul_le' t4 (CapT.sq_nonneg uu)
     have t6:uu*uu*(3217*17592186044416)=3217*(uu*uu*17592186044416):=by grind
     rw [t6,aS5] at t5
     grind
 have pos:∀H:Int,1≤H→0 < ((H:Int):Rat)*uu:=fun H h=>Rat.mul_pos (CapT.rcast_pos (by omega)) aDb
 unfold rZ
 by_cases hz:0 < uB c b
 · rw [if_pos hz]
   have hi:=aKg (N:=NN (sc d)) (n:=uB c b) (by
     have:d=0∨d=1∨d=2:=by omega
     rcases this with rfl | rfl | rfl<;>decide) (by omega)
   have ho:zK (sc d) (uB c b)=inv (NN (sc d)) (uB c b):=by unfold zK;rw [if_neg (by omega)]
   by_cases hR:(zK (sc d) (uB c b)).2 < bW e.1 d
   · rw [if_pos hR]
     rw [ho]
     refine⟨pos _ hi.1,.inl ⟨uB c b*(fB d*fB d),?_,?_,?_⟩⟩
     · have:=Int.mul_le_mul (a:=1) (b:=1) (c:=uB c b) (d:=fB d*fB d) (by omega) (by have:=Int.mul_le_mul (a:=1) (b:=1) (c:=fB d) (d:=fB d) hg.2.1 hg.2.1 (by omega) (by omega);omega) (by omega) (by omega)
       omega
     · refine bC9 ?_
       have:=Int.mul_le_mul_of_nonneg_right hi.2.1 (show 0≤fB d*fB d from CapT.sq_int_nonneg _)
       rw [hb1] at this
       grind
     · refine⟨(fB d*gp (oH c).1 (oI c).1 (oH b).1 (oI b).1,fB d*gp (oH c).2.1 (oI c).2.1 (oH b).2.1 (oI b).2.1,fB d*gp (oH c).2.2 (oI c).2.2 (oH b).2.2 (oI b).2.2),Int.mul_nonneg (by omega) (aBy ..),Int.mul_nonneg (by omega) (aBy ..),Int.mul_nonneg (by omega) (aBy ..),?_,aS6 _ _ _ _ _ _ _ (by omega),aS6 _ _ _ _ _ _ _ (by omega),aS6 _ _ _ _ _ _ _ (by omega)⟩
       unfold uB nr CapT.nsq
       simp only
       exact Int.le_of_eq (by grind)
   · rw [if_neg hR]
     exact⟨pos _ R1,.inr rimcase⟩
 · rw [if_neg hz]
   exact⟨pos _ R1,.inr rimcase⟩
theorem aHk {w g:Int} {q:PN} {X:P3} (hg:0≤g)(h:tZ w q X):tZ (g*w) q (tm g X):=by
 obtain⟨i,j,k,hi,hj,hk,hw,h1,h2,h3⟩:=h
 refine⟨g*i,g*j,g*k,Int.mul_nonneg hg hi,Int.mul_nonneg hg hj,Int.mul_nonneg hg hk,?_,?_,?_,?_⟩
 · rw [←hw];grind
 · simp only [tm];rw [h1];grind
 · simp only [tm];rw [h2];grind
 · simp only [tm];rw [h3];grind
theorem aI7 {d R:Int} (hd:0≤d∧d≤2) {w:Rat} {p c:PN} (hp:vp p=0)(hc:c∈aR d.toNat p):∀P,P∈[(aHh d R w c).A,(aHh d R w c).B,(aHh d R w c).C]→tZ 4 p P:=by
 obtain⟨h1,h2,h3⟩:=aNl (gD hp).1 (d:=d) (by omega) hc
 have hg:=aHg hd
 intro P hP
 simp only [List.mem_cons,List.not_mem_nil,or_false] at hP
 rw [←hg.1]
 rcases hP with rfl | rfl | rfl
 · exact aHk (by omega) h1
 · exact aHk (by omega) h2
 · exact aHk (by omega) h3
theorem aVj {d d':Int} (hd:0≤d∧d≤2)(hd':0≤d'∧d'≤2) {L L':List (PN×Int)} (hL:∀e∈L,vp e.1=0∧0≤e.2)(hL':∀e∈L',vp e.1=0∧0≤e.2) {V0:Int} (hV:∀e∈L,V0≤PLs d' L' e.1) :
   ∀t,t∈chs d L→∀M i j:Nat,i+j < M→CapT.potAt (chs d' L') (((V0:Int):Rat)*uu) t M i j:=by
 intro t ht M i j hij
 obtain⟨e,he,b,hb,rfl⟩:=mO ht
 have hp:=(hL e he).1
 refine CapT.potAt_of (fun s=>((bLo d' (lF (sc d') e.1) s.o.1:Int):Rat)*uu) (fun s hs=>?_) ?_ hij
 · obtain⟨e',he',c,hc,rfl⟩:=mO hs
   have hp':=(hL' e' he').1
   have hg:=aHg hd'
   have hb1:=aWe hd'
   have hfp:=aM1 (q:=lF (sc d') e.1) hp' (d:=d') (by omega) hc
   have hN:0≤NN (sc d')∧NN (sc d')≤288230376151711744:=aB1 (qG d')
   obtain⟨k,k1,k2,k3,k4,k5,k6,k7,k8⟩:=lE hN hfp
   have hbl:bLo d' (lF (sc d') e.1) c=k:=by
     unfold bLo zK
     rw [if_neg (by omega)]
     unfold inv
     exact k1
   refine⟨?_,fa3 c (lF (sc d') e.1)*(fB d'*fB d'),?_,?_,?_⟩
   · show 0≤((bLo d' (lF (sc d') e.1) c:Int):Rat)*uu
     rw [hbl]
     exact Rat.mul_nonneg (CapT.rcast_le (a:=0) k3) (Rat.le_of_lt aDb)
   · have:=Int.mul_le_mul (a:=1) (b:=1) (c:=fa3 c (lF (sc d') e.1)) (d:=fB d'*fB d') hfp (by have:=Int.mul_le_mul (a:=1) (b:=1) (c:=fB d') (d:=fB d') hg.2.1 hg.2.1 (by omega) (by omega);omega) (by omega) (by omega)
     omega
   · show((bLo d' (lF (sc d') e.1) c:Int):Rat)*uu*(((bLo d' (lF (sc d') e.1) c:Int):Rat)*uu)*_≤1
     rw [hbl]
     refine aY6 ?_
     have:=Int.mul_le_mul_of_nonneg_right k8 (show 0≤fB d'*fB d' from CapT.sq_int_nonneg _)
     rw [hb1] at this
     grind
   · intro P hP Q hQ
     have hh:=aI7 hd hp hb P hP
     have hQ':∃a,(a=c.1∨a=c.2.1∨a=c.2.2)∧Q=tm (fB d') a:=by
       simp only [List.mem_cons,List.not_mem_nil,or_false] at hQ
       rcases hQ with rfl | rfl | rfl
       · exact⟨_,.inl rfl,rfl⟩
       · exact⟨_,.inr (.inl rfl),rfl⟩
       · exact⟨_,.inr (.inr rfl),rfl⟩
     obtain⟨a,ha,rfl⟩:=hQ'
     have one:∀x:P3,(tm (sc d') x=(lF (sc d') e.1).1∨tm (sc d') x=(lF (sc d') e.1).2.1∨tm (sc d') x=(lF (sc d') e.1).2.2)→ds (tm 4 x) (tm (fB d') a)≤fa3 c (lF (sc d') e.1)*(fB d'*fB d'):=by
       intro x hx
       have h1:=aVh c (lF (sc d') e.1) ha hx
       have h2:=Int.mul_le_mul_of_nonneg_right h1 (show 0≤fB d'*fB d' from CapT.sq_int_nonneg _)
       have e1:ds (tm 4 x) (tm (fB d') a)=ds a (tm (sc d') x)*(fB d'*fB d'):=by
         rw [←hg.1]
         simp only [ds,dt,sb,tm]
         grind
       rw [e1];exact h2
     have:=aNm (w:=4) (Z:=tm (fB d') a) (by decide) hh (one e.1.1 (.inl rfl)) (one e.1.2.1 (.inr (.inl rfl))) (one e.1.2.2 (.inr (.inr rfl)))
     exact this
 · rw [bEs]
   exact CapT.rmul_le (CapT.rcast_le (hV e he)) (Rat.le_of_lt aDb)
theorem bDa {d d':Int} (hd:0≤d∧d≤2)(hd':0≤d'∧d'≤2) {L L':List (PN×Int)} (hL:∀e∈L,vp e.1=0∧0≤e.2)(hL':∀e∈L',vp e.1=0∧0≤e.2) {V0 E0:Int} (hV:∀e∈L,V0≤PLs d' L' e.1)(hE:aDu d L≤E0) :
   (sc d*sc d*nC L)*(sc d*sc d*nC L)*V0≤(sc d'*sc d'*nC L')*E0:=by
 have key:=CapT.cap (X:=chs d L) (Y:=chs d' L') (G:=2048) (h:=hcap d) (V:=((V0:Int):Rat)*uu) (E:=((E0:Int):Rat)*uu)
   (fun t ht=>by
     obtain⟨e,he,c,hc,rfl⟩:=mO ht
     exact⟨CapT.rcast_le (a:=0) (hL e he).2,aLt hd (hL e he).1 hc⟩)
   (fun t ht=>by
     obtain⟨e,he,c,hc,rfl⟩:=mO ht
     exact⟨CapT.rcast_le (a:=0) (hL' e he).2,aLt hd' (hL' e he).1 hc⟩)
   (aVj hd hd' hL hL' hV) (aI6 hd hL) (by
     rw [bC8]
     exact CapT.rmul_le (CapT.rcast_le hE) (Rat.le_of_lt aDb))
 rw [aHj hd,aHj hd'] at key
 have h1:(((sc d*sc d*nC L)*(sc d*sc d*nC L)*V0:Int):Rat)*uu≤(((sc d'*sc d'*nC L')*E0:Int):Rat)*uu:=by
   rw [CapT.rcast_mul,CapT.rcast_mul (sc d*sc d*nC L),CapT.rcast_mul (sc d'*sc d'*nC L')]
   grind
 have h2:(((sc d*sc d*nC L)*(sc d*sc d*nC L)*V0:Int):Rat)≤(((sc d'*sc d'*nC L')*E0:Int):Rat):=by
   rcases Rat.le_total (a:=(((sc d*sc d*nC L)*(sc d*sc d*nC L)*V0:Int):Rat)) (b:=(((sc d'*sc d'*nC L')*E0:Int):Rat)) with h | h
   · exact h
   · have hu:uu*4194304=1:=by unfold uu;decide +kernel
     have h3:=CapT.rmul_le h1 (show(0:Rat)≤4194304 by decide +kernel)
     have hx:∀x:Rat,x*uu*4194304=x*(uu*4194304):=fun x=>by grind
     rw [hx,hx,hu] at h3
     grind
 exact Rat.intCast_le_intCast.mp h2
theorem bDb {d:Int} (hd:0≤d∧d≤2) {L:List (PN×Int)} (hL:∀e∈L,vp e.1=0∧0≤e.2) {c:P3} {m B E0:Int} (hc:bd 256 c)(hm:∀e∈L,ds e.1.1 c≤m∧ds e.1.2.1 c≤m∧ds e.1.2.2 c≤m)(hm1:1≤m)(hB:m*1099511627776≤B*B)(hB0:1≤B)(hE:aDu d L≤E0) :
   (sc d*sc d*nC L)*(sc d*sc d*nC L)*1099511627776≤B*E0:=by
 have hBr:=CapT.rcast_pos (a:=B) (by omega)
 have iB:=CapT.odm hBr
 have iB0:=CapT.inv_nn (Rat.le_of_lt hBr)
 have key:=CapT.cap (X:=chs d L) (Y:=[⟨tm 4 c,tm 4 c,tm 4 c,1,((c,c,c),0)⟩]) (G:=2048) (h:=hcap d) (V:=262144*(1 / ((B:Int):Rat))) (E:=((E0:Int):Rat)*uu)
   (fun t ht=>by
     obtain⟨e,he,c,hc,rfl⟩:=mO ht
     exact⟨CapT.rcast_le (a:=0) (hL e he).2,aLt hd (hL e he).1 hc⟩)
   (fun t ht=>by
     obtain rfl:=List.mem_singleton.1 ht
     have:CapT.inb ((2048:Nat):Int) (tm 4 c):=by
       unfold CapT.inb tm bd at *
       simp only
       omega
     exact⟨show(0:Rat)≤1 by decide +kernel,this,this,this⟩)
   (fun t ht M i j hij=>by
     obtain⟨e,he,b,hb,rfl⟩:=mO ht
     have hp:=(hL e he).1
     refine CapT.potAt_of (fun _=>262144*(1 / ((B:Int):Rat))) (fun s hs=>?_) ?_ hij
     · obtain rfl:=List.mem_singleton.1 hs
       refine⟨Rat.mul_nonneg (by decide +kernel) iB0,16*m,by omega,?_,?_⟩
       · have h1:=CapT.rcast_le hB
         rw [CapT.rcast_mul,CapT.rcast_mul] at h1
         have h2:=CapT.rmul_le' h1 (CapT.sq_nonneg (1 / ((B:Int):Rat)))
         have e1:(1 / ((B:Int):Rat))*(1 / ((B:Int):Rat))*(((B:Int):Rat)*((B:Int):Rat))=(1 / ((B:Int):Rat)*((B:Int):Rat))*(1 / ((B:Int):Rat)*((B:Int):Rat)):=by grind
         rw [e1,iB] at h2
         have c1:((1099511627776:Int):Rat)=1099511627776:=rfl
         rw [c1] at h2
         rw [CapT.rcast_mul,show((16:Int):Rat)=16 from rfl]
         grind
       · intro P hP Q hQ
         have hh:=aI7 hd hp hb P hP
         have hQ':Q=tm 4 c:=by
           simp only [List.mem_cons,List.not_mem_nil,or_false,or_self] at hQ
           exact hQ
         subst hQ'
         have e4:∀x:P3,ds (tm 4 x) (tm 4 c)=16*ds x c:=by
           intro x;simp only [ds,dt,sb,tm];grind
         have h3:=hm e he
         exact aNm (w:=4) (Z:=tm 4 c) (by decide) hh (by rw [e4];omega) (by rw [e4];omega) (by rw [e4];omega)
     · simp only [CapT.ls];grind)
   (aI6 hd hL) (by
     rw [bC8]
     exact CapT.rmul_le (CapT.rcast_le hE) (Rat.le_of_lt aDb))
 rw [aHj hd] at key
 have t1:CapT.tot [⟨tm 4 c,tm 4 c,tm 4 c,1,((c,c,c),0)⟩]=1:=by simp only [CapT.tot,CapT.ls];grind
 rw [t1] at key
 have h1:=CapT.rmul_le key (Rat.le_of_lt hBr)
 have hu:uu*4194304=1:=by unfold uu;decide +kernel
 have h2:=CapT.rmul_le h1 (show(0:Rat)≤4194304 by decide +kernel)
 have e2:∀x:Rat,x*(262144*(1 / ((B:Int):Rat)))*((B:Int):Rat)*4194304=x*1099511627776*(1 / ((B:Int):Rat)*((B:Int):Rat)):=fun x=>by grind
 have e3:1*(((E0:Int):Rat)*uu)*((B:Int):Rat)*4194304=((B:Int):Rat)*((E0:Int):Rat)*(uu*4194304):=by grind
 rw [e2,e3,iB,hu] at h2
 refine Rat.intCast_le_intCast.mp ?_
 rw [CapT.rcast_mul,CapT.rcast_mul (sc d*sc d*nC L),CapT.rcast_mul B]
 have c1:((1099511627776:Int):Rat)=1099511627776:=rfl
 rw [c1]
 grind
end Go.Proofs.YtaeagjnpobdglaaGreat
namespace Go.Proofs.YtaeagjnpobdglaaGreat
open Go.Proofs Go.Aw Go.RowKit
set_option maxRecDepth 100000
theorem jU {α:Type} {f g:α→Int}:∀{l:List α},(∀c∈l,f c≤g c)→(l.map f).sum≤(l.map g).sum
 | [],_=>Int.le_refl _
 | c::l,h=>by
   have h1:=h c List.mem_cons_self
   have h2:=jU (l:=l) (fun x hx=>h x (List.mem_cons_of_mem _ hx))
   simp only [List.map_cons,List.sum_cons];omega
theorem eU {α:Type} (a:Int)(f:α→Int):∀l:List α,(l.map fun c=>a*f c).sum=a*(l.map f).sum
 | []=>by simp
 | c::l=>by simp only [List.map_cons,List.sum_cons];rw [eU a f l,Int.mul_add]
theorem oU {α:Type} (a:Int):∀l:List α,(l.map fun _=>a).sum=(l.length:Int)*a
 | []=>by simp
 | c::l=>by simp only [List.map_cons,List.sum_cons,List.length_cons];rw [oU a l,show((l.length+1:Nat):Int)=(l.length:Int)+1 by omega,Int.add_mul];omega
theorem aY8 {v:Int×Int} {n:Int} (hn:1≤n):n*(avg v n).1≤v.1:=Int.mul_ediv_self_le (by omega)
theorem aS7 {v:Int×Int} {n:Int} (hn:1≤n):v.2≤n*(avg v n).2:=by
 have:=Int.mul_ediv_self_le (x:=-v.2) (k:=n) (by omega)
 show v.2≤n*-(-v.2 / n)
 rw [Int.mul_neg];omega
theorem gX (d:Int):1≤sc d*sc d:=by
 rcases qG d with h | h | h | h<;>rw [h]<;>decide
theorem aY9 (p q:PN)(d:Int):sc d*sc d*(gZ p q d).1≤((aR d.toNat p).map (bLo d q)).sum:=by
 unfold gZ
 refine Int.le_trans (aY8 (gX d)) ?_
 rw [vJ];simp only [Int.zero_add];exact Int.le_refl _
theorem aS8 (p q:PN)(d:Int):((aR d.toNat p).map (rZ (bW p d) d q)).sum≤sc d*sc d*(gZ p q d).2:=by
 unfold gZ
 refine Int.le_trans ?_ (aS7 (gX d))
 rw [vJ];simp only [Int.zero_add];exact Int.le_refl _
theorem bDc {d:Int} {L:List (PN×Int)} (hL:∀e∈L,vp e.1=0∧0≤e.2)(p:PN):sc d*sc d*(L.map fun e=>e.2*(gZ e.1 (lF (sc d) p) d).1).sum≤PLs d L p:=by
 unfold PLs
 rw [←eU]
 refine jU (fun e he=>?_)
 rw [eU]
 have:=Int.mul_le_mul_of_nonneg_left (aY9 e.1 (lF (sc d) p) d) (hL e he).2
 have e1:sc d*sc d*(e.2*(gZ e.1 (lF (sc d) p) d).1)=e.2*(sc d*sc d*(gZ e.1 (lF (sc d) p) d).1):=by grind
 rw [e1];exact this
theorem aS9 {p q b:PN} {d:Int} {c:PN} (hp:vp p=0)(hq:vp q=0)(hd:0≤d∧d≤2)(hc:c∈aR d.toNat p)(hb:b∈aR d.toNat q):rZ (bW p d) d b c≤rZ (bW p d) d (lF (sc d) q) c:=by
 have hn:=aS4 (a:=c) (gD hq).1 (d:=d) (by omega) hb
 have hN:1≤NN (sc d)∧NN (sc d)≤288230376151711744:=by
   have:d=0∨d=1∨d=2:=by omega
   rcases this with rfl | rfl | rfl<;>decide
 unfold rZ
 by_cases h1:0 < uB c (lF (sc d) q)
 · rw [if_pos h1,if_pos (show 0 < uB c b by omega)]
   have hm:(zK (sc d) (uB c b)).2≤(zK (sc d) (uB c (lF (sc d) q))).2:=by
     unfold zK
     rw [if_neg (by omega),if_neg (by omega)]
     exact aIn hN (by omega) hn
   split<;>split<;>omega
 · rw [if_neg h1]
   split
   · split<;>omega
   · omega
theorem aZa {d:Int} (hd:0≤d∧d≤2) {L:List (PN×Int)} (hL:∀e∈L,vp e.1=0∧0≤e.2):aDu d L≤(sc d*sc d)*(sc d*sc d)*(L.map fun e'=>e'.2*(L.map fun e=>e.2*(gZ e.1 (lF (sc d) e'.1) d).2).sum).sum:=by
 unfold aDu
 rw [←eU]
 refine jU (fun e' he'=>?_)
 have key:∀b∈aR d.toNat e'.1,e'.2*(L.map fun e=>((aR d.toNat e.1).map fun c=>e.2*rZ (bW e.1 d) d b c).sum).sum≤e'.2*(sc d*sc d*(L.map fun e=>e.2*(gZ e.1 (lF (sc d) e'.1) d).2).sum):=by
   intro b hb
   refine Int.mul_le_mul_of_nonneg_left ?_ (hL e' he').2
   rw [←eU]
   refine jU (fun e he=>?_)
   rw [eU]
   have h1:=jU (l:=aR d.toNat e.1) (f:=rZ (bW e.1 d) d b) (g:=rZ (bW e.1 d) d (lF (sc d) e'.1)) (fun c hc=>aS9 (hL e he).1 (hL e' he').1 hd hc hb)
   have h2:=Int.le_trans h1 (aS8 e.1 (lF (sc d) e'.1) d)
   have h3:=Int.mul_le_mul_of_nonneg_left h2 (hL e he).2
   have e1:sc d*sc d*(e.2*(gZ e.1 (lF (sc d) e'.1) d).2)=e.2*(sc d*sc d*(gZ e.1 (lF (sc d) e'.1) d).2):=by grind
   rw [e1];exact h3
 refine Int.le_trans (jU key) ?_
 rw [oU,mK (by omega) e'.1]
 exact Int.le_of_eq (by grind)
theorem aZb {d:Int} (hd:0≤d∧d≤2) {L:List (PN×Int)} (hL:∀e∈L,vp e.1=0∧0≤e.2):aDu d L≤(sc d*sc d)*(sc d*sc d)*(L.map fun e'=>(L.map fun e=>e.2*e'.2*(aGb e.1 e'.1 d).1.2).sum).sum:=by
 unfold aDu
 rw [←eU]
 refine jU (fun e' he'=>?_)
 -- exchange the iV over b and e
 have ex:((aR d.toNat e'.1).map fun b=>e'.2*(L.map fun e=>((aR d.toNat e.1).map fun c=>e.2*rZ (bW e.1 d) d b c).sum).sum).sum=(L.map fun e=>((aR d.toNat e'.1).map fun b=>e'.2*((aR d.toNat e.1).map fun c=>e.2*rZ (bW e.1 d) d b c).sum).sum).sum:=by
   have sw:∀(A:List PN) (B:List (PN×Int)) (f:PN→PN×Int→Int),(A.map fun a=>(B.map fun b=>f a b).sum).sum=(B.map fun b=>(A.map fun a=>f a b).sum).sum:=by
     intro A B f
     induction A with
     | nil=>simp only [List.map_nil,List.sum_nil];rw [oU];omega
     | cons a A ih =>
       simp only [List.map_cons,List.sum_cons,ih]
       clear ih
       induction B with
       | nil=>simp
       | cons b B ih2=>simp only [List.map_cons,List.sum_cons];omega
   have e2:((aR d.toNat e'.1).map fun b=>e'.2*(L.map fun e=>((aR d.toNat e.1).map fun c=>e.2*rZ (bW e.1 d) d b c).sum).sum)=((aR d.toNat e'.1).map fun b=>(L.map fun e=>e'.2*((aR d.toNat e.1).map fun c=>e.2*rZ (bW e.1 d) d b c).sum).sum):=by
     refine List.map_congr_left (fun b _=>?_)
     rw [eU]
   rw [e2];exact sw _ _ _
 rw [ex,←eU]
 refine jU (fun e he=>?_)
 have hpk:pk e.1 e'.1 d=0:=by unfold pk;rw [if_pos (hL e he).1,if_pos (hL e' he').1,if_pos hd]
 have hm:(aGb e.1 e'.1 d).1.2=(avg (iV (tJ e.1 e'.1 d) (0,0)) (sc d*sc d)).2:=by unfold aGb;rw [if_pos hpk]
 have h1:((aR d.toNat e'.1).map fun b=>e'.2*((aR d.toNat e.1).map fun c=>e.2*rZ (bW e.1 d) d b c).sum).sum≤e.2*e'.2*(sc d*sc d*((aR d.toNat e'.1).map fun b=>(gZ e.1 b d).2).sum):=by
   rw [←eU,←eU]
   refine jU (fun b hb=>?_)
   rw [eU]
   have h2:=aS8 e.1 b d
   have h3:=Int.mul_le_mul_of_nonneg_left h2 (Int.mul_nonneg (hL e he).2 (hL e' he').2)
   have e1:e'.2*(e.2*((aR d.toNat e.1).map fun c=>rZ (bW e.1 d) d b c).sum)=e.2*e'.2*((aR d.toNat e.1).map (rZ (bW e.1 d) d b)).sum:=by grind
   rw [e1];exact h3
 refine Int.le_trans h1 ?_
 have h4:=aS7 (v:=iV (tJ e.1 e'.1 d) (0,0)) (gX d)
 rw [rG] at h4
 have e3:(((0:Int),(0:Int)).2+((tJ e.1 e'.1 d).map (·.2)).sum)=((aR d.toNat e'.1).map fun b=>(gZ e.1 b d).2).sum:=by
   unfold tJ
   rw [List.map_map]
   simp only [Int.zero_add]
   rfl
 simp only at h4 e3
 rw [e3] at h4
 rw [hm,rG]
 have h5:=Int.mul_le_mul_of_nonneg_left h4 (show 0≤sc d*sc d by have:=gX d;omega)
 have h6:=Int.mul_le_mul_of_nonneg_left h5 (Int.mul_nonneg (hL e he).2 (hL e' he').2)
 exact Int.le_trans h6 (Int.le_of_eq (by grind))
structure Sys (L:List (PN×Int)) (d Q mx E mn:Int):Prop where
 hd:0≤d∧d≤2
 hL:∀e∈L,vp e.1=0∧0≤e.2
 hQ:nC L=Q
 Q1:1≤Q
 E1:1≤E
 mx1:1≤mx
 mn1:1≤mn
 hmx:∀e∈L,(L.map fun e'=>e'.2*(gZ e'.1 (lF (sc d) e.1) d).2).sum≤mx
 hmn:∀e∈L,mn≤(L.map fun e'=>e'.2*(gZ e'.1 (lF (sc d) e.1) d).1).sum
 hE:(L.map fun e'=>(L.map fun e=>e.2*e'.2*(aGb e.1 e'.1 d).1.2).sum).sum≤E
theorem aNn {L:List (PN×Int)} {d Q mx E mn:Int} (S:Sys L d Q mx E mn):aDu d L≤(sc d*sc d)*(sc d*sc d)*(Q*mx):=by
 refine Int.le_trans (aZa S.hd S.hL) (Int.mul_le_mul_of_nonneg_left ?_ (Int.mul_nonneg (by have:=gX d;omega) (by have:=gX d;omega)))
 have h1:=jU (l:=L) (f:=fun e'=>e'.2*(L.map fun e=>e.2*(gZ e.1 (lF (sc d) e'.1) d).2).sum) (g:=fun e'=>mx*e'.2) (fun e' he'=>by
   have:=Int.mul_le_mul_of_nonneg_left (S.hmx e' he') (S.hL e' he').2
   exact Int.le_trans this (Int.le_of_eq (Int.mul_comm _ _)))
 rw [eU] at h1
 have:(L.map (·.2)).sum=Q:=S.hQ
 rw [this] at h1
 exact Int.le_trans h1 (Int.le_of_eq (Int.mul_comm _ _))
theorem aNo {L:List (PN×Int)} {d Q mx E mn:Int} (S:Sys L d Q mx E mn):aDu d L≤(sc d*sc d)*(sc d*sc d)*E :=
 Int.le_trans (aZb S.hd S.hL) (Int.mul_le_mul_of_nonneg_left S.hE (Int.mul_nonneg (by have:=gX d;omega) (by have:=gX d;omega)))
theorem eD {a b k:Int} (hk:1≤k)(h:k*a≤k*b):a≤b:=Int.le_of_mul_le_mul_left h (by omega)
theorem aTa {L L':List (PN×Int)} {d Q mx E mn d' Q' mx' E' mn':Int} (S:Sys L d Q mx E mn)(S':Sys L' d' Q' mx' E' mn')
   (hV:∀e∈L,mn'≤(L'.map fun e'=>e'.2*(gZ e'.1 (lF (sc d') e.1) d').1).sum):Q*Q*mn'≤Q'*E∧Q*mn'≤Q'*mx:=by
 have hV0:∀e∈L,sc d'*sc d'*mn'≤PLs d' L' e.1:=fun e he =>
   Int.le_trans (Int.mul_le_mul_of_nonneg_left (hV e he) (by have:=gX d';omega)) (bDc S'.hL e.1)
 have a:=bDa S.hd S'.hd S.hL S'.hL hV0 (aNo S)
 have b:=bDa S.hd S'.hd S.hL S'.hL hV0 (aNn S)
 rw [S.hQ,S'.hQ] at a b
 have n1:=gX d;have n2:=gX d'
 generalize sc d*sc d=n at *
 generalize sc d'*sc d'=n' at *
 have nn:1≤n*n:=by have:=Int.mul_le_mul (a:=1) (b:=1) (c:=n) (d:=n) n1 n1 (by omega) (by omega);omega
 have nnn:1≤n*n*n':=by have:=Int.mul_le_mul (a:=1) (b:=1) (c:=n*n) (d:=n') nn n2 (by omega) (by omega);omega
 refine⟨eD nnn ?_,eD S.Q1 (eD nnn ?_)⟩
 · have e1:n*n*n'*(Q*Q*mn')=n*Q*(n*Q)*(n'*mn'):=by grind
   have e2:n*n*n'*(Q'*E)=n'*Q'*(n*n*E):=by grind
   rw [e1,e2];exact a
 · have e1:n*n*n'*(Q*(Q*mn'))=n*Q*(n*Q)*(n'*mn'):=by grind
   have e2:n*n*n'*(Q*(Q'*mx))=n'*Q'*(n*n*(Q*mx)):=by grind
   rw [e1,e2];exact b
theorem aTb {L:List (PN×Int)} {d Q mx E mn:Int} (S:Sys L d Q mx E mn) {c:P3} {m B:Int} (hc:bd 256 c)(hm:∀e∈L,ds e.1.1 c≤m∧ds e.1.2.1 c≤m∧ds e.1.2.2 c≤m)(hm1:1≤m)(hB:m*1099511627776≤B*B)(hB0:1≤B):Q*Q*1099511627776≤B*E∧Q*1099511627776≤B*mx:=by
 have a:=bDb S.hd S.hL hc hm hm1 hB hB0 (aNo S)
 have b:=bDb S.hd S.hL hc hm hm1 hB hB0 (aNn S)
 rw [S.hQ] at a b
 have n1:=gX d
 generalize sc d*sc d=n at *
 have nn:1≤n*n:=by have:=Int.mul_le_mul (a:=1) (b:=1) (c:=n) (d:=n) n1 n1 (by omega) (by omega);omega
 refine⟨eD nn ?_,eD S.Q1 (eD nn ?_)⟩
 · have e1:n*n*(Q*Q*1099511627776)=n*Q*(n*Q)*1099511627776:=by grind
   have e2:n*n*(B*E)=B*(n*n*E):=by grind
   rw [e1,e2];exact a
 · have e1:n*n*(Q*(Q*1099511627776))=n*Q*(n*Q)*1099511627776:=by grind
   have e2:n*n*(Q*(B*mx))=B*(n*n*(Q*mx)):=by grind
   rw [e1,e2];exact b
theorem aTc {x n:Int} (h1:-1099511627776≤lY x n)(h2:lY x n≤1099511627776):lY x n=x*n:=by
 unfold lY at *
 split at h1<;>rename_i a
 · rw [if_pos a] at h2;omega
 · rw [if_neg a] at h2 ⊢
   split at h1<;>rename_i b
   · omega
   · rw [if_neg b]
theorem aNp {a:Int×Int} {n:Int} (ha:okP a)(hn:0≤n∧n≤10000)(h:(nQ a n).2=0):(nQ a n).1=(a.1*n,a.2*n):=by
 rw [aF8 (aGo ha) (by omega)] at h ⊢
 rcases rB (scl a n).1 (scl a n).2 with⟨e,v⟩ | e
 · rw [e]
   have hs:scl a n=(lY a.1 n,lY a.2 n):=by unfold scl;rw [if_neg (by omega)]
   rw [hs] at v ⊢
   unfold vs at v
   simp only at v ⊢
   rw [aTc v.1 (by omega),aTc (x:=a.2) (by omega) v.2.2]
 · rw [e] at h;exact absurd h (by decide)
theorem aNq {l:List ((Int×Int)×Int)} (hl:∀c∈l,okP c.1∧0≤c.2∧c.2≤10000)(h:(dY l).2=0):(dY l).1=((l.map fun c=>c.1.1*c.2).sum,(l.map fun c=>c.1.2*c.2).sum):=by
 unfold dY at h ⊢
 cases hs:nD sC l [] with
 | inr r=>rw [hs] at h;exact absurd h (rH hs)
 | inl m =>
   rw [hs] at h
   simp only [pJ] at h ⊢
   obtain⟨e,hv⟩:=aQs h
   rw [e]
   obtain⟨e2,h0⟩:=kV hs
   rw [List.nil_append] at e2
   rw [rG,e2]
   simp only [Int.zero_add,List.map_map]
   refine Prod.ext ?_ ?_
   · refine congrArg List.sum (List.map_congr_left fun c hc=>?_)
     show(nQ c.1 c.2).1.1=_
     rw [aNp (hl c hc).1 (hl c hc).2 (h0 c hc)]
   · refine congrArg List.sum (List.map_congr_left fun c hc=>?_)
     show(nQ c.1 c.2).1.2=_
     rw [aNp (hl c hc).1 (hl c hc).2 (h0 c hc)]
theorem aVk {T:TB} {q:List Int} (hT:∀r∈T,r.length=q.length∧∀s∈r,okP s)(hq:okC q)(h:(pL T q).2=0) :
   (pL T q).1=T.map fun r=>(((r.zip q).map fun c=>c.1.1*c.2).sum,((r.zip q).map fun c=>c.1.2*c.2).sum):=by
 unfold pL at h ⊢
 cases hs:nD (fun r:List (Int×Int)=>dY (r.zip q)) T [] with
 | inr r=>rw [hs] at h;exact absurd h (rH hs)
 | inl m =>
   simp only [pJ]
   obtain⟨e,h0⟩:=kV hs
   rw [List.nil_append] at e
   subst e
   refine List.map_congr_left fun r hr=>?_
   obtain⟨hl,hP⟩:=hT r hr
   exact aNq (l:=r.zip q) (fun c hc=>⟨hP _ (List.of_mem_zip hc).1,by have:=hq _ (List.of_mem_zip hc).2;omega⟩) (h0 r hr)
theorem aTd:∀(l:List (Int×Int))(v:Int),v≤mxF l v∧∀s∈l,s.2≤mxF l v
 | [],v=>⟨Int.le_refl _,fun s hs=>by cases hs⟩
 | a::l,v=>by
   have ih:=aTd l (iK v a.2)
   have hb:v≤iK v a.2∧a.2≤iK v a.2:=by unfold iK;split<;>omega
   refine⟨Int.le_trans hb.1 ih.1,fun s hs=>?_⟩
   rcases List.mem_cons.1 hs with rfl | hs
   · exact Int.le_trans hb.2 ih.1
   · exact ih.2 s hs
theorem aTe:∀(l:List (Int×Int))(v:Int),mnF l v≤v∧∀s∈l,mnF l v≤s.1
 | [],v=>⟨Int.le_refl _,fun s hs=>by cases hs⟩
 | a::l,v=>by
   have ih:=aTe l (pG v a.1)
   have hb:pG v a.1≤v∧pG v a.1≤a.1:=by unfold pG;split<;>omega
   refine⟨Int.le_trans ih.1 hb.1,fun s hs=>?_⟩
   rcases List.mem_cons.1 hs with rfl | hs
   · exact Int.le_trans ih.1 hb.2
   · exact ih.2 s hs
theorem aNr:∀(l:List (Int×Int))(v:Int),1≤v→(∀s∈l,1≤s.1)→1≤mnF l v
 | [],v,h,_=>h
 | a::l,v,h,h2=>aNr l (pG v a.1) (by have:=h2 a List.mem_cons_self;unfold pG;split<;>omega) (fun s hs=>h2 s (List.mem_cons_of_mem _ hs))
theorem aTf:∀(l:List (Int×Int))(v B:Int),v≤B→(∀s∈l,s.2≤B)→mxF l v≤B
 | [],v,B,h,_=>h
 | a::l,v,B,h,h2=>aTf l (iK v a.2) B (by have:=h2 a List.mem_cons_self;unfold iK;split<;>omega) (fun s hs=>h2 s (List.mem_cons_of_mem _ hs))
theorem aTg {n:Int} (h:(F97 n).2=0):(F97 n).1=n∧n≤1099511627776:=by
 unfold F97 at h ⊢
 by_cases c:n > 1099511627776
 · rw [bV c] at h;exact absurd h (show ¬((4:Int)=0) by decide)
 · rw [cJ c];exact⟨rfl,by omega⟩
abbrev chg (m:ME)(q:List Int):List (PN×Int):=(aU m).zip q
theorem aVl {m:ME} {q:List Int} (hC:ChOK m q):nC (chg m q)=q.sum:=by
 unfold nC chg
 have hpl:(aU m).length=m.2.length:=List.length_map _
 rw [List.map_snd_zip (by have:=hC.len;omega)]
theorem aZc {m:ME} {q:List Int} (hC:ChOK m q):∀e∈chg m q,vp e.1=0∧0≤e.2:=by
 intro e he
 have h1:=List.of_mem_zip he
 refine⟨?_,(hC.ok _ h1.2).1⟩
 obtain⟨c,hc,e1⟩:=List.mem_map.1 h1.1
 rw [←e1]
 exact aGn hC.v c hc
structure BV (x:Int×Int) (Q mx E mn B:Int):Prop where
 lo:∃b t,x.1=iK b t∧0≤b∧0≤t∧b*mx≤Q*1099511627776∧t*E≤Q*Q*1099511627776
 hi:∃a,x.2=pG a B∧Q*1099511627776≤a*mn∧a≤1099511627776
theorem yB {m:ME} {q:List Int} {d:Int} (h:(cW m q d).2=0):ChOK m q∧∃Q mx E mn,Sys (chg m q) d Q mx E mn∧BV (cW m q d).1 Q mx E mn (tN m (xY (zN m))).1:=by
 unfold cW at h ⊢
 cases hc:((gE (m.1,m.2) q d:Int) != 0) with
 | true=>simp only [hc,cond_true] at h;rw [h] at hc;cases hc
 | false =>
   obtain⟨hv,hd⟩:=aIw (m:=m) hc
   have hC:ChOK m q:=by have hc2:((gE m q d:Int) != 0)=false:=hc;rw [yW] at hc2;exact(gI (bne_eq_false_iff_eq.1 hc2)).1
   refine⟨hC,?_⟩
   have hpf:=aLh (m:=m) hv hd
   simp only [hc,cond_false] at h ⊢
   have hpf':F33 (m.1,m.2) d=_:=hpf
   rw [hpf'] at h ⊢
   rw [show((((((m.1,m.2),(bS m d).1,(cA m d).1,(tN m (xY (zN m))).1),0):TBL×Int).2:Int) != 0)=false from rfl,cond_false] at h ⊢
   have eB:(bS m d).1=(aU m).map (fW m d):=by rw [aIs hv hd];rfl
   have eM:(cA m d).1=MT m d:=by rw [aIt hv hd];rfl
   simp only [eB,eM] at h ⊢
   have hn:=hC.n;have hl:=hC.len;have hs1:=hC.pos;have hle:=hC.le
   have hpl:(aU m).length=m.2.length:=List.length_map _
   have hrow:∀r∈(aU m).map (fW m d),r.length=q.length∧∀s∈r,okP s:=fun r hr=>by
     obtain⟨p,hp,rfl⟩:=List.mem_map.1 hr
     unfold fW
     refine⟨by rw [List.length_map];omega,fun s hsm=>?_⟩
     obtain⟨p',hp',rfl⟩:=List.mem_map.1 hsm
     exact(kH (lX hC.v hd hp' hp)).2
   have ep:=aM8 (T:=(aU m).map (fW m d)) (q:=q) (fun r hr=>by rw [(hrow r hr).1];exact Nat.le_refl _) (by omega)
   have ee:=aYp (m:=m) (q:=q) (d:=d) (by omega) (by omega)
   unfold iZ at h ⊢
   simp only [ep,ee] at h ⊢
   generalize hB:(tN m (xY (zN m))).1=B at *
   cases hP:((((pL ((aU m).map (fW m d)) q).2:Int)) != 0) with
   | true=>simp only [hP,cond_true] at h;rw [h] at hP;cases hP
   | false =>
     simp only [hP,cond_false] at h ⊢
     have hP0:=bne_eq_false_iff_eq.1 hP
     have pv:=aVk hrow hC.ok hP0
     have pp:=aGp hrow hC.ok hP0
     cases hb:(((gV (pL ((aU m).map (fW m d)) q).1 q).2:Int) != 0) with
     | true=>simp only [hb,cond_true] at h;rw [h] at hb;cases hb
     | false =>
       simp only [hb,cond_false] at h ⊢
       cases hE:(((dY (((aU m).zip q).flatMap (eC m q d))).2:Int) != 0) with
       | true=>simp only [hE,cond_true] at h;rw [h] at hE;cases hE
       | false =>
         simp only [hE,cond_false] at h ⊢
         have hE0:=bne_eq_false_iff_eq.1 hE
         have hzq:∀e∈(aU m).zip q,0≤e.2∧e.2≤100:=fun e he=>hC.ok _ (List.of_mem_zip he).2
         have hWq:∀c∈(aU m).zip q,∀e∈(aU m).zip q,W (c.2*e.2)=c.2*e.2∧0≤c.2*e.2∧c.2*e.2≤10000:=fun c hc e he=>by
           have a:=hzq c hc;have b:=hzq e he
           have c1:=Int.mul_nonneg a.1 b.1
           have c2:=Int.mul_le_mul (a:=c.2) (b:=e.2) (c:=100) (d:=100) a.2 b.2 b.1 (by omega)
           exact⟨aD (by omega) (by omega),c1,by omega⟩
         have hel:∀c∈((aU m).zip q).flatMap (eC m q d),okP c.1∧0≤c.2∧c.2≤10000:=fun c hc=>by
           obtain⟨e,he,hc⟩:=List.mem_flatMap.1 hc
           obtain⟨e',he',rfl⟩:=List.mem_map.1 hc
           have:=hWq e he e' he'
           exact⟨(oO (lX hC.v hd (List.of_mem_zip he).1 (List.of_mem_zip he').1)).2,by simp only;rw [this.1];exact this.2.1,by simp only;rw [this.1];exact this.2.2⟩
         have ev:=aNq hel hE0
         have epos:=aLg hC hd hE0
         cases ht:(((pB (dY (((aU m).zip q).flatMap (eC m q d))).1 q).2:Int) != 0) with
         | true=>simp only [ht,cond_true] at h;rw [h] at ht;cases ht
         | false =>
           simp only [ht,cond_false] at h ⊢
           cases ha:(((gW (pL ((aU m).map (fW m d)) q).1 q).2:Int) != 0) with
           | true=>simp only [ha,cond_true] at h;rw [h] at ha;cases ha
           | false =>
             simp only [cond_false]
             have tq:=aSb hC.ok hC.pos (by omega)
             have o1:=aCv hC.ok hC.pos (by omega)
             have hb0:=bne_eq_false_iff_eq.1 hb
             have ht0:=bne_eq_false_iff_eq.1 ht
             have ha0:=bne_eq_false_iff_eq.1 ha
             rw [aNc] at hb0 ⊢
             rw [aNd] at ha0 ⊢
             unfold pB at ht0 ⊢
             rw [tq.1] at hb0 ha0 ht0 ⊢
             rw [tq.1] at o1
             rw [o1] at ht0 ⊢
             simp only at ht0 ⊢
             generalize hl2:(pL ((aU m).map (fW m d)) q).1=l at *
             have l1:1≤l.length:=by rw [pp.1,List.length_map];omega
             have lv:∀s∈l,1≤s.1∧s.1≤s.2∧s.2≤1099511627776:=fun s hs=>by
               have:=pp.2 s hs
               unfold vs at this;omega
             have l0m:l.getD (toNat 0) default∈l:=by
               rw [show toNat 0=0 from rfl,fL,List.getElem?_eq_getElem (show 0 < l.length by omega)]
               exact List.getElem_mem (show 0 < l.length by omega)
             have hmx:=aTd l (l.getD (toNat 0) default).2
             have hmn:=aTe l (l.getD (toNat 0) default).1
             have mn1:=aNr l (l.getD (toNat 0) default).1 (lv _ l0m).1 (fun s hs=>(lv s hs).1)
             have mxb:=aTf l (l.getD (toNat 0) default).2 1099511627776 (lv _ l0m).2.2 (fun s hs=>(lv s hs).2.2)
             have mx1:1≤mxF l (l.getD (toNat 0) default).2:=by have:=lv _ l0m;omega
             have mnb:mnF l (l.getD (toNat 0) default).1≤1099511627776:=by have:=lv _ l0m;omega
             generalize mxF l (l.getD (toNat 0) default).2=mx at *
             generalize mnF l (l.getD (toNat 0) default).1=mn at *
             have hEE:(dY (((aU m).zip q).flatMap (eC m q d))).1.2=((((aU m).zip q).flatMap (eC m q d)).map fun c=>c.1.2*c.2).sum:=by rw [ev]
             generalize hEg:(dY (((aU m).zip q).flatMap (eC m q d))).1.2=E at *
             have hvE:E≤1099511627776:=by have:=epos.2;unfold vs at this;omega
             refine⟨q.sum,mx,E,mn,⟨hd,aZc hC,aVl hC,hC.pos,epos.1,mx1,mn1,?_,?_,?_⟩,⟨?_,?_⟩⟩
             · intro e he
               have hx2:=hmx.2
               rw [pv] at hx2
               have hm:=hx2 _ (List.mem_map.2 ⟨fW m d e.1,List.mem_map.2 ⟨e.1,(List.of_mem_zip he).1,rfl⟩,rfl⟩)
               refine Int.le_trans (Int.le_of_eq ?_) hm
               simp only
               unfold fW
               rw [aM9,List.map_map]
               refine congrArg List.sum (List.map_congr_left fun e' he'=>?_)
               have:=xG (lX hC.v hd (List.of_mem_zip he').1 (List.of_mem_zip he).1)
               simp only [Function.comp]
               rw [this];exact Int.mul_comm _ _
             · intro e he
               have hx2:=hmn.2
               rw [pv] at hx2
               have hm:=hx2 _ (List.mem_map.2 ⟨fW m d e.1,List.mem_map.2 ⟨e.1,(List.of_mem_zip he).1,rfl⟩,rfl⟩)
               refine Int.le_trans hm (Int.le_of_eq ?_)
               simp only
               unfold fW
               rw [aM9,List.map_map]
               refine congrArg List.sum (List.map_congr_left fun e' he'=>?_)
               have:=xG (lX hC.v hd (List.of_mem_zip he').1 (List.of_mem_zip he).1)
               simp only [Function.comp]
               rw [this];exact Int.mul_comm _ _
             · rw [hEE]
               refine Int.le_of_eq ?_
               -- sum over e' of sum over e against sum over c of sum over e
               have fl:∀(A:List (PN×Int)) (g:PN×Int→List ((Int×Int)×Int)),((A.flatMap g).map fun c=>c.1.2*c.2).sum=(A.map fun a=>((g a).map fun c=>c.1.2*c.2).sum).sum:=by
                 intro A g
                 induction A with
                 | nil=>rfl
                 | cons a A ih=>rw [List.flatMap_cons,List.map_append,List.sum_append,ih,List.map_cons,List.sum_cons]
               have sw:∀(A B:List (PN×Int)) (f:PN×Int→PN×Int→Int),(A.map fun a=>(B.map fun b=>f a b).sum).sum=(B.map fun b=>(A.map fun a=>f a b).sum).sum:=by
                 intro A B f
                 induction A with
                 | nil=>simp only [List.map_nil,List.sum_nil];rw [oU];omega
                 | cons a A ih =>
                   simp only [List.map_cons,List.sum_cons,ih]
                   clear ih
                   induction B with
                   | nil=>simp
                   | cons b B ih2=>simp only [List.map_cons,List.sum_cons];omega
               rw [fl,sw]
               refine congrArg List.sum (List.map_congr_left fun c hc=>?_)
               unfold eC
               rw [List.map_map]
               refine congrArg List.sum (List.map_congr_left fun e he=>?_)
               simp only [Function.comp]
               rw [(hWq c hc e he).1,aB7,Int.mul_comm (c.2*e.2)]
             · have ub:=aGq (a:=E) (n:=q.sum) (by omega) (by omega)
               have w0:1≤(E+q.sum - 1).tdiv q.sum:=by rw [←ub.2];exact ub.1
               have ed:(E+q.sum - 1).tdiv q.sum=(E+q.sum - 1) / q.sum:=Int.tdiv_eq_ediv_of_nonneg (by omega)
               have w1:E≤(E+q.sum - 1) / q.sum*q.sum:=by
                 have a1:=Int.lt_mul_ediv_self_add (x:=E+q.sum - 1) (k:=q.sum) (by omega)
                 rw [Int.mul_comm] at a1;omega
               rw [ub.2] at ht0 ⊢
               have b1:=aTg hb0
               have t1:=aTg ht0
               rw [b1.1,t1.1]
               have bd1:(q.sum*1099511627776).tdiv mx=q.sum*1099511627776 / mx:=Int.tdiv_eq_ediv_of_nonneg (by omega)
               have td1:(q.sum*1099511627776).tdiv ((E+q.sum - 1).tdiv q.sum)=q.sum*1099511627776 / ((E+q.sum - 1).tdiv q.sum):=Int.tdiv_eq_ediv_of_nonneg (by omega)
               have bq:=Int.ediv_mul_le (q.sum*1099511627776) (b:=mx) (by omega)
               have tq2:=Int.ediv_mul_le (q.sum*1099511627776) (b:=(E+q.sum - 1).tdiv q.sum) (by omega)
               have bn:0≤q.sum*1099511627776 / mx:=Int.ediv_nonneg (by omega) (by omega)
               have tn:0≤q.sum*1099511627776 / ((E+q.sum - 1).tdiv q.sum):=Int.ediv_nonneg (by omega) (by omega)
               have bl:q.sum*1099511627776 / mx≤q.sum*1099511627776:=Int.ediv_le_self _ (by omega)
               have tl:q.sum*1099511627776 / ((E+q.sum - 1).tdiv q.sum)≤q.sum*1099511627776:=Int.ediv_le_self _ (by omega)
               rw [bd1,td1,aD (by omega) (by omega),aD (by omega) (by omega)]
               refine⟨_,_,rfl,bn,tn,bq,?_⟩
               generalize q.sum*1099511627776 / ((E+q.sum - 1).tdiv q.sum)=t at *
               rw [ed] at tq2
               have a1:=Int.mul_le_mul_of_nonneg_left w1 tn
               have a2:=Int.mul_le_mul_of_nonneg_right tq2 (show 0≤q.sum by omega)
               have a3:t*((E+q.sum - 1) / q.sum*q.sum)=t*((E+q.sum - 1) / q.sum)*q.sum:=by grind
               have a4:q.sum*1099511627776*q.sum=q.sum*q.sum*1099511627776:=by grind
               rw [a3] at a1
               rw [a4] at a2
               exact Int.le_trans a1 a2
             · have a1:=aTg ha0
               rw [a1.1]
               have ua:=aGq (a:=q.sum*1099511627776) (n:=mn) (by omega) (by omega)
               have ed:(q.sum*1099511627776+mn - 1).tdiv mn=(q.sum*1099511627776+mn - 1) / mn:=Int.tdiv_eq_ediv_of_nonneg (by omega)
               have a2:=Int.lt_mul_ediv_self_add (x:=q.sum*1099511627776+mn - 1) (k:=mn) (by omega)
               rw [Int.mul_comm mn] at a2
               refine⟨_,rfl,?_,a1.2⟩
               rw [ua.2,ed]
               omega
theorem bDd {x x':Int×Int} {Q mx E mn B Q' mx' E' mn' B' f g:Int} (h:BV x Q mx E mn B)(h':BV x' Q' mx' E' mn' B')(hf:0≤f)(hg:0≤g)(m1:1≤mx)(e1:1≤E)(n1:1≤mn')
   (p:f*(Q*Q*mn')≤g*(Q'*E)∧f*(Q*mn')≤g*(Q'*mx)) (b:f*(Q*Q*1099511627776)≤g*(B'*E)∧f*(Q*1099511627776)≤g*(B'*mx)):f*x.1≤g*x'.2:=by
 obtain⟨u,t,ex,u0,t0,hu,ht⟩:=h.lo
 obtain⟨a,ey,ha,_⟩:=h'.hi
 have c1:f*u≤g*a:=by
   have s1:=Int.mul_le_mul_of_nonneg_left hu (show 0≤f*mn' from Int.mul_nonneg hf (by omega))
   have s2:=Int.mul_le_mul_of_nonneg_left p.2 (show(0:Int)≤1099511627776 by omega)
   have s3:=Int.mul_le_mul_of_nonneg_left ha (show 0≤g*mx from Int.mul_nonneg hg (by omega))
   have k1:1≤mx*mn':=by have:=Int.mul_le_mul (a:=1) (b:=1) (c:=mx) (d:=mn') m1 n1 (by omega) (by omega);omega
   refine eD k1 ?_
   grind
 have c2:f*t≤g*a:=by
   have s1:=Int.mul_le_mul_of_nonneg_left ht (show 0≤f*mn' from Int.mul_nonneg hf (by omega))
   have s2:=Int.mul_le_mul_of_nonneg_left p.1 (show(0:Int)≤1099511627776 by omega)
   have s3:=Int.mul_le_mul_of_nonneg_left ha (show 0≤g*E from Int.mul_nonneg hg (by omega))
   have k1:1≤E*mn':=by have:=Int.mul_le_mul (a:=1) (b:=1) (c:=E) (d:=mn') e1 n1 (by omega) (by omega);omega
   refine eD k1 ?_
   grind
 have c3:f*u≤g*B':=by
   have s1:=Int.mul_le_mul_of_nonneg_left hu hf
   refine eD m1 ?_
   grind
 have c4:f*t≤g*B':=by
   have s1:=Int.mul_le_mul_of_nonneg_left ht hf
   refine eD e1 ?_
   grind
 rw [ex,ey]
 have i1:=oT u t
 have i2:=tT a B'
 rcases i1.2.2 with k | k<;>rcases i2.2.2 with l | l<;>rw [k,l]<;>assumption
theorem bDe {x:Int×Int} {Q mx E mn B:Int} (h:BV x Q mx E mn B):0≤x.1∧x.2≤1099511627776:=by
 obtain⟨u,t,ex,u0,t0,_⟩:=h.lo
 obtain⟨a,ey,_,ha⟩:=h.hi
 have:=oT u t;have:=tT a B
 omega
theorem bDf {n:Int} (h:0≤n∧n≤400000):(xB n).2=0∧0≤(xB n).1.2∧n*1099511627776≤(xB n).1.2*(xB n).1.2:=by
 obtain⟨r,hr,e⟩:=aRk h
 obtain⟨h0,h1,h2⟩:=hr
 rw [e]
 unfold yY
 have hb:r≤1073741824:=by
   by_cases hc:r≤1073741824
   · exact hc
   · have:=Int.mul_le_mul (show(1073741824:Int)≤r by omega) (show(1073741824:Int)≤r by omega) (by omega) (by omega)
     omega
 have hx:((if r*r=n*1099511627776 then r else r+1)=r∧r*r=n*1099511627776)∨(if r*r=n*1099511627776 then r else r+1)=r+1:=by
   split
   · rename_i c;exact .inl ⟨rfl,c⟩
   · exact .inr rfl
 generalize (if r*r=n*1099511627776 then r else r+1)=s at hx ⊢
 rw [aB0 (by omega) (by omega) (by omega)]
 refine⟨rfl,?_,?_⟩
 · show 0≤s;omega
 · show n*1099511627776≤s*s
   rcases hx with⟨e1,e2⟩ | e1<;>rw [e1]<;>omega
theorem aZd {p x:P3} (hp:bd 64 p)(hx:bd 256 x):dsW p x=ds p x:=by
 unfold bd at hp hx
 have e1:W (p.1 - x.1)=p.1 - x.1:=aD (by omega) (by omega)
 have e2:W (p.2.1 - x.2.1)=p.2.1 - x.2.1:=aD (by omega) (by omega)
 have e3:W (p.2.2 - x.2.2)=p.2.2 - x.2.2:=aD (by omega) (by omega)
 have b1:=bD (a:=320) (b:=320) (x:=p.1 - x.1) (y:=p.1 - x.1) (by omega) (by omega)
 have b2:=bD (a:=320) (b:=320) (x:=p.2.1 - x.2.1) (y:=p.2.1 - x.2.1) (by omega) (by omega)
 have b3:=bD (a:=320) (b:=320) (x:=p.2.2 - x.2.2) (y:=p.2.2 - x.2.2) (by omega) (by omega)
 unfold dsW ds dt sb
 simp only [e1,e2,e3]
 generalize (p.1 - x.1)*(p.1 - x.1)=a at *
 generalize (p.2.1 - x.2.1)*(p.2.1 - x.2.1)=b at *
 generalize (p.2.2 - x.2.2)*(p.2.2 - x.2.2)=c at *
 rw [aD (n:=a) (by omega) (by omega),aD (n:=b) (by omega) (by omega),aD (n:=c) (by omega) (by omega),aD (n:=a+b) (by omega) (by omega),aD (n:=a+b+c) (by omega) (by omega)]
theorem aI8 (x:P3):∀(l:List P3)(v:Int),v≤l.foldl (fun v p=>iK v (dsW p x)) v∧∀p∈l,dsW p x≤l.foldl (fun v p=>iK v (dsW p x)) v
 | [],v=>⟨Int.le_refl _,fun s hs=>by cases hs⟩
 | a::l,v=>by
   rw [List.foldl_cons]
   have ih:=aI8 x l (iK v (dsW a x))
   have hb:=oT v (dsW a x)
   refine⟨Int.le_trans hb.1 ih.1,fun s hs=>?_⟩
   rcases List.mem_cons.1 hs with rfl | hs
   · exact Int.le_trans hb.2.1 ih.1
   · exact ih.2 s hs
theorem aVm {m:ME} (h:fU m=0):∀p∈aU m,p.1∈m.1∧p.2.1∈m.1∧p.2.2∈m.1:=by
 intro p hp
 obtain⟨c,hc,rfl⟩:=List.mem_map.1 hp
 obtain⟨i,hi⟩:=List.getElem?_of_mem hc
 obtain⟨hlt,_⟩:=List.getElem?_eq_some_iff.1 hi
 obtain⟨h64,_,_,_,hf⟩:=iA h
 have hfc:=hf (i:Int) (by omega) (by omega)
 rw [bB hi] at hfc
 have hin:inF m.1.length c:=mL (m:=m) (by rw [hfc];rfl) h64
 have mm:∀j:Int,0≤j∧j < (m.1.length:Int)→m.1.getD (toNat j) default∈m.1:=fun j hj=>by
   have hl:toNat j < m.1.length:=by omega
   rw [fL,List.getElem?_eq_getElem hl]
   exact List.getElem_mem hl
 exact⟨mm _ hin.1,mm _ hin.2.1,mm _ hin.2.2⟩
theorem bDg {a b c:Int} (h:a*a+b*b+c*c≤0):a=0∧b=0∧c=0:=by
 have sq:∀x:Int,0≤x*x:=fun x=>by
   rcases Int.le_total 0 x with k | k
   · exact Int.mul_nonneg k k
   · exact Int.mul_nonneg_of_nonpos_of_nonpos k k
 have:=sq a;have:=sq b;have:=sq c
 have z:∀x:Int,x*x≤0→x=0:=fun x hx=>by
   rcases Int.lt_trichotomy x 0 with k | k | k
   · have:=Int.mul_le_mul (a:=1) (b:=1) (c:=-x) (d:=-x) (by omega) (by omega) (by omega) (by omega)
     rw [Int.neg_mul_neg] at this;omega
   · exact k
   · have:=Int.mul_le_mul (a:=1) (b:=1) (c:=x) (d:=x) (by omega) (by omega) (by omega) (by omega)
     omega
 exact⟨z a (by omega),z b (by omega),z c (by omega)⟩
theorem aZe {p c:P3} (h:ds p c≤0):p=c:=by
 unfold ds dt sb at h
 obtain⟨h1,h2,h3⟩:=bDg h
 simp only at h1 h2 h3
 exact Prod.ext (by omega) (Prod.ext (by omega) (by omega))
theorem aTh {m:ME} {q:List Int} {c:P3} {d Q mx E mn:Int} (hC:ChOK m q)(S:Sys (chg m q) d Q mx E mn)(hc:bd 256 c) :
   (tN m c).2=0∧Q*Q*1099511627776≤(tN m c).1*E∧Q*1099511627776≤(tN m c).1*mx:=by
 have hv:=hC.v
 have hpt:=aG1 hv
 have hW:=vU hc m.1 0 hpt (by omega)
 have eB:tN m c=((xB (jA m c)).1.2,(xB (jA m c)).2):=by
   unfold tN
   rw [show fU (m.1,m.2)=0 from hv,vT,vT,vT,bV hc.1,bV hc.2.1,bV hc.2.2]
   show(aB (pA m c) (toNat ((m.1.length:Int) - 0)+1) (0,0))=_
   rw [aGy]
 have L:=bDf (n:=jA m c) hW
 rw [eB]
 refine⟨L.1,?_⟩
 have hd:=(aI8 c m.1 0).2
 have hm:∀e∈chg m q,ds e.1.1 c≤jA m c∧ds e.1.2.1 c≤jA m c∧ds e.1.2.2 c≤jA m c:=by
   intro e he
   have hp:=aVm hv e.1 (List.of_mem_zip he).1
   have one:∀p∈m.1,ds p c≤jA m c:=fun p hp=>by rw [←aZd (hpt p hp) hc];exact hd p hp
   exact⟨one _ hp.1,one _ hp.2.1,one _ hp.2.2⟩
 have h1:1≤jA m c:=by
   rcases Int.lt_or_le 0 (jA m c) with k | k
   · omega
   · exfalso
     have hne:∃e,e∈chg m q:=by
       cases hl:chg m q with
       | nil=>have a:=S.hQ;rw [hl] at a;have b:=S.Q1;exact absurd (show(0:Int)=Q from a) (by omega)
       | cons a l=>exact⟨a,List.mem_cons_self⟩
     obtain⟨e,he⟩:=hne
     have h3:=hm e he
     have hv:=(gD (S.hL e he).1).2
     have e1:=aZe (Int.le_trans h3.1 k);have e2:=aZe (Int.le_trans h3.2.1 k);have e3:=aZe (Int.le_trans h3.2.2 k)
     have hz:lD e.1=(0,0,0):=by
       have s0:sb c c=(0,0,0):=Prod.ext (Int.sub_self _) (Prod.ext (Int.sub_self _) (Int.sub_self _))
       unfold lD;rw [e1,e2,e3,s0];decide
     rw [hz] at hv
     exact absurd hv (by decide)
 have B1:1≤(xB (jA m c)).1.2:=by
   rcases Int.lt_or_le 0 (xB (jA m c)).1.2 with k | k
   · omega
   · exfalso
     have e0:(xB (jA m c)).1.2=0:=by have:=L.2.1;omega
     have:=L.2.2
     rw [e0] at this;omega
 exact aTb S hc hm h1 L.2.2 B1
theorem aVn {m:ME} {q q':List Int} {d' Q' mx' E' mn':Int} (hC:ChOK m q)(hC':ChOK m q')(S':Sys (chg m q') d' Q' mx' E' mn'):∀e∈chg m q,mn'≤((chg m q').map fun e'=>e'.2*(gZ e'.1 (lF (sc d') e.1) d').1).sum:=by
 intro e he
 have hp:=(List.of_mem_zip he).1
 have:∃e'∈chg m q',e'.1=e.1:=by
   obtain⟨i,hi⟩:=List.getElem?_of_mem hp
   obtain⟨hlt,hge⟩:=List.getElem?_eq_some_iff.1 hi
   have hpl:(aU m).length=m.2.length:=List.length_map _
   have hl:i < (chg m q').length:=by
     unfold chg
     rw [List.length_zip];have:=hC'.len;omega
   refine⟨(chg m q')[i],List.getElem_mem hl,?_⟩
   unfold chg
   rw [List.getElem_zip];exact hge
 obtain⟨e',he',eq⟩:=this
 have:=S'.hmn e' he'
 rw [eq] at this
 exact this
theorem aTi {m:ME} {q q':List Int} {d d':Int} (h:(cW m q d).2=0)(h':(cW m q' d').2=0):(cW m q d).1.1≤(cW m q' d').1.2:=by
 obtain⟨hC,Q,mx,E,mn,S,V⟩:=yB h
 obtain⟨hC',Q',mx',E',mn',S',V'⟩:=yB h'
 have p:=aTa S S' (aVn hC hC' S')
 have hb:=aSg hC.v
 have b:=(aTh hC S (c:=xY (zN m)) (by unfold bd at hb ⊢;omega)).2
 have:=bDd (f:=1) (g:=1) V V' (by omega) (by omega) S.mx1 S.E1 S'.mn1 (by omega) (by omega)
 omega
theorem aVo {m:ME} {q:List Int} {d:Int} (h:(cW m q d).2=0):0≤(cW m q d).1.1∧(cW m q d).1.1≤(cW m q d).1.2∧(cW m q d).1.2≤1099511627776:=by
 obtain⟨hC,Q,mx,E,mn,S,V⟩:=yB h
 have:=bDe V
 exact⟨this.1,aTi h h,this.2⟩
def F10:Bool :=
 (bif (((tN (nW.1,nW.2) (0,0,0)).2:Int) == 0) then
  (bif (((tN (nW.1,nW.2) (0,0,0)).1:Int) == 1048576) then
   (bif (((F30 (nW.1,nW.2) 1).2:Int) == 0) then
    (bif (((F30 (nW.1,nW.2) 1).1:Int) == 1280) then
     (bif (((F31 (nW.1,nW.2) 0).2:Int) == 0) then
      (bif (decide (((F31 (nW.1,nW.2) 0).1.1:Int) > 0)) then
       (decide (((F31 (nW.1,nW.2) 0).1.2:Int)≤1048576))
      else
       false)
     else
      false)
    else
     false)
   else
    false)
  else
   false)
 else
  false)
theorem C10:Con Tryz.prog 10 [] [] (.v (.bool F10)) []:=by
 refine aK Tryz.func10 (by kernel_rfl) fun cx hcx=>?_
 have ho1:nW.1.length=6:=by kernel_rfl
 have ho2:nW.2.length=8:=by kernel_rfl
 let t0:List (St Tryz.prog):=[.c [] (C29),.c [0,1] (C28 (nW.1,nW.2) (0,0,0) (by(try simp only [Lt]);omega) (by(try simp only [Lt]);omega)),.c [] (C29),.c [2,3] (C30 (nW.1,nW.2) 1 (by(try simp only [Lt]);omega) (by(try simp only [Lt]);omega)),.c [] (C29),.c [4,5] (C31 (nW.1,nW.2) 0 (by(try simp only [Lt]);omega) (by(try simp only [Lt]);omega))]
 cases h0:(((tN (nW.1,nW.2) (0,0,0)).2:Int) == 0) with
 | true =>
  have q0:=eq_of_beq h0
  let t1:List (St Tryz.prog):=(t0++[.d h0])
  cases h1:(((tN (nW.1,nW.2) (0,0,0)).1:Int) == 1048576) with
  | true =>
   have q1:=eq_of_beq h1
   let t2:List (St Tryz.prog):=(t1++[.d h1])
   cases h2:(((F30 (nW.1,nW.2) 1).2:Int) == 0) with
   | true =>
    have q2:=eq_of_beq h2
    let t3:List (St Tryz.prog):=(t2++[.d h2])
    cases h3:(((F30 (nW.1,nW.2) 1).1:Int) == 1280) with
    | true =>
     have q3:=eq_of_beq h3
     let t4:List (St Tryz.prog):=(t3++[.d h3])
     cases h4:(((F31 (nW.1,nW.2) 0).2:Int) == 0) with
     | true =>
      have q4:=eq_of_beq h4
      let t5:List (St Tryz.prog):=(t4++[.d h4])
      cases h5:(decide (((F31 (nW.1,nW.2) 0).1.1:Int) > 0)) with
      | true =>
       have q5:=bY h5
       have e:=Eq.refl F10;conv at e=>rhs;simp only [F10,h0,h1,h2,h3,h4,h5,aI]
       rw [e]
       exact rt (t5++[.d h5]) [] [] hcx (by kernel_rfl)
      | false =>
       have q5:=cG h5
       have e:=Eq.refl F10;conv at e=>rhs;simp only [F10,h0,h1,h2,h3,h4,h5,aI]
       rw [e]
       exact rt (t5++[.d h5]) [] [] hcx (by kernel_rfl)
     | false =>
      have q4:=ne_of_beq_false h4
      have e:=Eq.refl F10;conv at e=>rhs;simp only [F10,h0,h1,h2,h3,h4,aI]
      rw [e]
      exact rt (t4++[.d h4]) [] [] hcx (by kernel_rfl)
    | false =>
     have q3:=ne_of_beq_false h3
     have e:=Eq.refl F10;conv at e=>rhs;simp only [F10,h0,h1,h2,h3,aI]
     rw [e]
     exact rt (t3++[.d h3]) [] [] hcx (by kernel_rfl)
   | false =>
    have q2:=ne_of_beq_false h2
    have e:=Eq.refl F10;conv at e=>rhs;simp only [F10,h0,h1,h2,aI]
    rw [e]
    exact rt (t2++[.d h2]) [] [] hcx (by kernel_rfl)
  | false =>
   have q1:=ne_of_beq_false h1
   have e:=Eq.refl F10;conv at e=>rhs;simp only [F10,h0,h1,aI]
   rw [e]
   exact rt (t1++[.d h1]) [] [] hcx (by kernel_rfl)
 | false =>
  have q0:=ne_of_beq_false h0
  have e:=Eq.refl F10;conv at e=>rhs;simp only [F10,h0,aI]
  rw [e]
  exact rt (t0++[.d h0]) [] [] hcx (by kernel_rfl)
theorem aZf:F10=true:=by kernel_rfl
theorem aZg {m:ME} {q:List Int} {d:Int} (h:(cW m q d).2=0):vs (cW m q d).1:=by
 have:=aVo h
 unfold vs;omega
def bEt (g:PN→PN):Prop:=∀p q d,0≤d∧d≤2→vp p=0→vp q=0→vp (g p)=0→vp (g q)=0→uA (g p) (g q) d=uA p q d∧pM (g p) (g q) d=pM p q d
section
variable {T φ : P3 → P3} {g : PN → PN}
end
end Go.Proofs.YtaeagjnpobdglaaGreat
namespace Go.Proofs.YtaeagjnpobdglaaGreat
open Go.Proofs Go.Aw Go.RowKit
set_option maxRecDepth 100000
theorem aVp (m:ME)(q:List Int)(d:Int):nT m q d=bif (((iW m q d).2:Int) != 0) then(0,(iW m q d).2) else gV (iW m q d).1 q:=by
 obtain⟨m1,m2⟩:=m
 unfold nT
 dsimp only
 rw [sP]
 cases h:(((iW (m1,m2) q d).2:Int) != 0) with
 | true=>rfl
 | false =>
   obtain⟨h1,h2,h3⟩:=aEs h
   rw [cond_false,cond_false,aNc,aSd h1 h3]
   have key:=aZ (S:=kW (m1,m2) q d) (fun v i=>(v,i)) (fun v s=>.inl (iK v s.2)) (fun v=>F97 (W (Int.tdiv (cN q) v))) (L:=(iW (m1,m2) q d).1) (v:=0) (n:=toNat ((((iW (m1,m2) q d).1.length:Nat):Int) - 0)+1) (fun _ _=>True) ?_ (fun _ _ _ _ _ _ _=>trivial) ?_ (by omega) trivial
   · refine(Eq.trans key ?_)
     rw [bM];rfl
   · intro i c hc v _
     obtain⟨hlt,hce⟩:=List.getElem?_eq_some_iff.1 hc
     simp only [kW]
     rw [sP,bV (by omega),cond_true,bB hc];rfl
   · intro v _
     simp only [kW]
     rw [sP,cJ (by omega),cond_false,aGz];rfl
theorem aVq (m:ME)(q:List Int)(d:Int):qL m q d=bif (((iW m q d).2:Int) != 0) then(0,(iW m q d).2) else gW (iW m q d).1 q:=by
 obtain⟨m1,m2⟩:=m
 unfold qL
 dsimp only
 rw [sP]
 cases h:(((iW (m1,m2) q d).2:Int) != 0) with
 | true=>rfl
 | false =>
   rw [cond_false,cond_false,aNd]
   have key:=aZ (S:=kX (m1,m2) q d) (fun v i=>(v,i)) (fun v s=>.inl (pG v s.1)) (fun v=>F97 (F99 (cN q) v)) (L:=(iW (m1,m2) q d).1) (v:=((iW (m1,m2) q d).1.getD (toNat 0) default).1) (n:=toNat ((((iW (m1,m2) q d).1.length:Nat):Int) - 0)+1) (fun _ _=>True) ?_ (fun _ _ _ _ _ _ _=>trivial) ?_ (by omega) trivial
   · refine(Eq.trans key ?_)
     rw [bM];rfl
   · intro i c hc v _
     obtain⟨hlt,hce⟩:=List.getElem?_eq_some_iff.1 hc
     simp only [kX]
     rw [sP,bV (by omega),cond_true,bB hc];rfl
   · intro v _
     simp only [kX]
     rw [sP,cJ (by omega),cond_false,aGz];rfl
theorem aOs (m:ME)(q:List Int)(d:Int):qM m q d=bif (((EnV m q d).2:Int) != 0) then(0,(EnV m q d).2) else pB (EnV m q d).1 q:=by
 obtain⟨m1,m2⟩:=m
 unfold qM
 dsimp only
 rw [bCg]
 cases h:(((EnV (m1,m2) q d).2:Int) != 0) with
 | true=>rfl
 | false =>
   rw [cond_false,cond_false]
   have h':=h
   unfold EnV at h'
   cases hc:(chD (m1,m2) q d != 0) with
   | true=>rw [hc,cond_true] at h';rw [hc] at h';exact absurd h' (by decide)
   | false =>
     obtain⟨hC,hd⟩:=gI (bne_eq_false_iff_eq.1 hc)
     have hn:=hC.n;have hl:=hC.len
     unfold pB F99
     rw [aCv hC.ok hC.pos (by omega),aGz,aNb hC.ok (by omega)]
     rfl
theorem aZh {m:ME} {q:List Int} {d:Int} (h:((gE m q d:Int) != 0)=false):iW m q d=bC (bS m d).1 q:=by
 rw [yW] at h
 obtain⟨hc,hd⟩:=gI (bne_eq_false_iff_eq.1 h)
 have hn:=hc.n;have hl:=hc.len
 unfold iW
 rw [h,cond_false,show(bS m d).1=(aU m).map (fW m d) from by rw [aIs hc.v hd];rfl]
 exact(aM8 (T:=(aU m).map (fW m d)) (q:=q) (fun r hr=>by
     obtain⟨p,_,rfl⟩:=List.mem_map.1 hr
     have hpl:(aU m).length=m.2.length:=List.length_map _
     unfold fW;rw [List.length_map];omega) (by omega)).symm
theorem bDh {m:ME} {q:List Int} {d:Int} (h:((gE m q d:Int) != 0)=false):EnV m q d=cS (cA m d).1 q:=by
 rw [yW] at h
 obtain⟨hc,hd⟩:=gI (bne_eq_false_iff_eq.1 h)
 have hn:=hc.n;have hl:=hc.len
 have hpl:(aU m).length=m.2.length:=List.length_map _
 unfold EnV
 rw [h,cond_false,show(cA m d).1=MT m d from by rw [aIt hc.v hd];rfl,aYp (by omega) (by omega)]
theorem bDi (m:ME)(q:List Int)(d:Int):cW m q d=gQ m q d:=by
 obtain⟨m1,m2⟩:=m
 unfold cW gQ
 dsimp only
 rw [aVp,aOs,aVq,←aU6]
 cases hc:((gE (m1,m2) q d:Int) != 0) with
 | true =>
   have e:iW (m1,m2) q d=([],gE (m1,m2) q d):=by
     unfold iW
     rw [←yW,hc,cond_true]
   rw [e]
   simp only [hc,cond_true]
 | false =>
   obtain⟨hv,hd⟩:=aIw hc
   have hp1:=(oM (m:=(m1,m2)) (by rw [hv];rfl)).1
   rw [aLh hv hd,aZh hc,bDh hc,aSe hp1]
   have hB:=aSh hv
   unfold iZ
   simp only [cond_false]
   generalize bC (bS (m1,m2) d).1 q=P
   generalize cS (cA (m1,m2) d).1 q=E
   generalize gV P.1 q=b
   generalize gW P.1 q=a
   generalize pB E.1 q=t
   generalize tN (m1,m2) (xY (zN (m1,m2)))=B at hB
   rw [hB]
   have h0:(((0:Int)) != 0)=false:=rfl
   cases hP:((P.2:Int) != 0) with
   | true=>simp only [hP,h0,aI]
   | false =>
     cases hb:((b.2:Int) != 0) with
     | true=>simp only [hP,hb,h0,aI]
     | false =>
       cases hE:((E.2:Int) != 0) with
       | true=>simp only [hP,hb,hE,h0,aI]
       | false =>
         cases ht:((t.2:Int) != 0) with
         | true=>simp only [hP,hb,hE,ht,h0,aI]
         | false =>
           cases ha:((a.2:Int) != 0) with
           | true=>simp only [hP,hb,hE,ht,ha,h0,aI]
           | false=>simp only [hP,hb,hE,ht,ha,h0,aI]
def F77 (a0:Int×Int)(a1:Int×Int):Bool×Int :=
 (bif (((mJ (a0,a1)):Int) == 0) then
  (bif (decide ((a0.1:Int)≥a1.1)) then
   ((decide ((a0.2:Int)≤a1.2)),(mJ (a0,a1)))
  else
   (false,(mJ (a0,a1))))
 else
  (false,(mJ (a0,a1))))
theorem C77 (a0:Int×Int)(a1:Int×Int):Con Tryz.prog 77 [(.a [(iv a0.1),(iv a0.2)]),(.a [(iv a1.1),(iv a1.2)])] [] (.t [(.v (.bool (F77 a0 a1).1)),(iv (F77 a0 a1).2)]) []:=by
 refine aK Tryz.func77 (by kernel_rfl) fun cx hcx=>?_
 let t0:List (St Tryz.prog):=[.c [2] (aZ4 (a0,a1))]
 cases h0:(((mJ (a0,a1)):Int) == 0) with
 | true =>
  have q0:=eq_of_beq h0
  let t1:List (St Tryz.prog):=(t0++[.d h0])
  cases h1:(decide ((a0.1:Int)≥a1.1)) with
  | true =>
   have q1:=bY h1
   have e:=Eq.refl (F77 a0 a1);conv at e=>rhs;simp only [F77,h0,h1,aI]
   rw [e]
   exact rt (t1++[.d h1]) [] [] hcx (by kernel_rfl)
  | false =>
   have q1:=cG h1
   have e:=Eq.refl (F77 a0 a1);conv at e=>rhs;simp only [F77,h0,h1,aI]
   rw [e]
   exact rt (t1++[.d h1]) [] [] hcx (by kernel_rfl)
 | false =>
  have q0:=ne_of_beq_false h0
  have e:=Eq.refl (F77 a0 a1);conv at e=>rhs;simp only [F77,h0,aI]
  rw [e]
  exact rt (t0++[.d h0]) [] [] hcx (by kernel_rfl)
def V84 (x:Bool×Zt):Value:=bif x.1 then(.iface 87 (.agg [(.int .i64 x.2.1)].toArray)) else(.iface 91 (.agg [(.int .i64 x.2.2.1),(.int .i64 x.2.2.2)].toArray))
def zO (a0:Zm)(a1:List (Int)×Zt):Bool×Zt :=
 (bif (!(qX a1.2.2)) then
  (true,1,(0,0))
 else
  (bif (!(pK a1.2.1 0 2)) then
   (true,1,(0,0))
  else
   (bif (((cW (a0.1,a0.2) a1.1 a1.2.1).2:Int) != 0) then
    (true,(cW (a0.1,a0.2) a1.1 a1.2.1).2,(0,0))
   else
    (bif (!(F77 (cW (a0.1,a0.2) a1.1 a1.2.1).1 a1.2.2).1) then
     (true,12,(0,0))
    else
     (false,0,a1.2.2)))))
theorem C49 (a0:Zm)(a1:List (Int)×Zt)(l0_1:a0.1.length≤9223372036854775807)(l0_2:a0.2.length≤9223372036854775807)(l1_1:a1.1.length≤9223372036854775807):Con Tryz.prog 49 [(.a [(.s 0 0 a0.1.length 3),(.s 1 0 a0.2.length 3)]),(.a [(.s 2 0 a1.1.length 1),(iv a1.2.1),(iv a1.2.2.1),(iv a1.2.2.2)])] [(.live false true (flat dU a0.1)),(.live false true (flat eZ a0.2)),(.live false true (flat c3 a1.1))] (.v (V84 (zO a0 a1))) []:=by
 refine aK Tryz.func49 (by kernel_rfl) fun cx hcx=>?_
 let t0:List (St Tryz.prog):=[.c [] (C76 a1.2.2)]
 cases h0:(!(qX a1.2.2)) with
 | true =>
  have e:=Eq.refl (zO a0 a1);conv at e=>rhs;simp only [zO,h0,aI]
  rw [e]
  exact rt (t0++[.d h0]) [] [] hcx (by kernel_rfl)
 | false =>
  let t1:List (St Tryz.prog):=(t0++[.d h0,.c [] (C55 a1.2.1 0 2)])
  cases h1:(!(pK a1.2.1 0 2)) with
  | true =>
   have e:=Eq.refl (zO a0 a1);conv at e=>rhs;simp only [zO,h0,h1,aI]
   rw [e]
   exact rt (t1++[.d h1]) [] [] hcx (by kernel_rfl)
  | false =>
   let t2:List (St Tryz.prog):=(t1++[.d h1,.c [0,1,2] (aV9 (a0.1,a0.2) a1.1 a1.2.1 (by(try simp only [Lt]);omega) (by(try simp only [Lt]);omega) (by omega))])
   cases h2:(((cW (a0.1,a0.2) a1.1 a1.2.1).2:Int) != 0) with
   | true =>
    have q2:=bne_iff_ne.1 h2
    have e:=Eq.refl (zO a0 a1);conv at e=>rhs;simp only [zO,h0,h1,h2,aI]
    rw [e]
    exact rt (t2++[.d h2]) [] [] hcx (by kernel_rfl)
   | false =>
    have q2:=bne_eq_false_iff_eq.1 h2
    let t3:List (St Tryz.prog):=(t2++[.d h2,.c [] (C77 (cW (a0.1,a0.2) a1.1 a1.2.1).1 a1.2.2)])
    cases h3:(!(F77 (cW (a0.1,a0.2) a1.1 a1.2.1).1 a1.2.2).1) with
    | true =>
     have e:=Eq.refl (zO a0 a1);conv at e=>rhs;simp only [zO,h0,h1,h2,h3,aI]
     rw [e]
     exact rt (t3++[.d h3]) [] [] hcx (by kernel_rfl)
    | false =>
     have e:=Eq.refl (zO a0 a1);conv at e=>rhs;simp only [zO,h0,h1,h2,h3,aI]
     rw [e]
     exact rt (t3++[.d h3]) [] [] hcx (by kernel_rfl)
theorem bDj (a0:Zm)(a1:List (Int)×Zt)(l0_1:a0.1.length≤9223372036854775807)(l0_2:a0.2.length≤9223372036854775807)(l1_1:a1.1.length≤9223372036854775807)(hw:(zO a0 a1).1=true):Con Tryz.prog 49 [(.a [(.s 0 0 a0.1.length 3),(.s 1 0 a0.2.length 3)]),(.a [(.s 2 0 a1.1.length 1),(iv a1.2.1),(iv a1.2.2.1),(iv a1.2.2.2)])] [(.live false true (flat dU a0.1)),(.live false true (flat eZ a0.2)),(.live false true (flat c3 a1.1))] (.v (.iface 87 (.agg [(.int .i64 (zO a0 a1).2.1)].toArray))) []:=by
 have h:=C49 a0 a1 l0_1 l0_2 l1_1
 rw [show V84 (zO a0 a1)=(.iface 87 (.agg [(.int .i64 (zO a0 a1).2.1)].toArray)) from by simp only [V84,hw,cond_true]] at h
 exact h
theorem bDk (a0:Zm)(a1:List (Int)×Zt)(l0_1:a0.1.length≤9223372036854775807)(l0_2:a0.2.length≤9223372036854775807)(l1_1:a1.1.length≤9223372036854775807)(hw:(zO a0 a1).1=false):Con Tryz.prog 49 [(.a [(.s 0 0 a0.1.length 3),(.s 1 0 a0.2.length 3)]),(.a [(.s 2 0 a1.1.length 1),(iv a1.2.1),(iv a1.2.2.1),(iv a1.2.2.2)])] [(.live false true (flat dU a0.1)),(.live false true (flat eZ a0.2)),(.live false true (flat c3 a1.1))] (.v (.iface 91 (.agg [(.int .i64 (zO a0 a1).2.2.1),(.int .i64 (zO a0 a1).2.2.2)].toArray))) []:=by
 have h:=C49 a0 a1 l0_1 l0_2 l1_1
 rw [show V84 (zO a0 a1)=(.iface 91 (.agg [(.int .i64 (zO a0 a1).2.2.1),(.int .i64 (zO a0 a1).2.2.2)].toArray)) from by simp only [V84,hw,cond_false]] at h
 exact h
def F18 (a0:Zm)(a1:List (Int)×Zt):Int :=
 (bif (((fU (a0.1,a0.2)):Int) != 0) then
  (fU (a0.1,a0.2))
 else
  (bif ((zO (a0.1,a0.2) (a1.1,a1.2.1,a1.2.2)).1) then
   (zO (a0.1,a0.2) (a1.1,a1.2.1,a1.2.2)).2.1
  else
   0))
theorem C18 (a0:Zm)(a1:List (Int)×Zt)(l0_1:a0.1.length≤9223372036854775807)(l0_2:a0.2.length≤9223372036854775807)(l1_1:a1.1.length≤9223372036854775807):Con Tryz.prog 18 [(.a [(.s 0 0 a0.1.length 3),(.s 1 0 a0.2.length 3)]),(.a [(.s 2 0 a1.1.length 1),(iv a1.2.1),(iv a1.2.2.1),(iv a1.2.2.2)])] [(.live false true (flat dU a0.1)),(.live false true (flat eZ a0.2)),(.live false true (flat c3 a1.1))] (iv (F18 a0 a1)) []:=by
 refine aK Tryz.func18 (by kernel_rfl) fun cx hcx=>?_
 let t0:List (St Tryz.prog):=[.c [0,1] (C35 (a0.1,a0.2) (by(try simp only [Lt]);omega) (by(try simp only [Lt]);omega))]
 cases h0:(((fU (a0.1,a0.2)):Int) != 0) with
 | true =>
  have q0:=bne_iff_ne.1 h0
  have e:=Eq.refl (F18 a0 a1);conv at e=>rhs;simp only [F18,h0,aI]
  rw [e]
  exact rt (t0++[.d h0]) [] [] hcx (by kernel_rfl)
 | false =>
  have q0:=bne_eq_false_iff_eq.1 h0
  let t1:List (St Tryz.prog):=(t0++[.d h0])
  cases h1:((zO (a0.1,a0.2) (a1.1,a1.2.1,a1.2.2)).1) with
  | true =>
   have e:=Eq.refl (F18 a0 a1);conv at e=>rhs;simp only [F18,h0,h1,aI]
   rw [e]
   exact rt (t1++[.c [0,1,2] (bDj (a0.1,a0.2) (a1.1,a1.2.1,a1.2.2) (by(try simp only [Lt]);omega) (by(try simp only [Lt]);omega) (by(try simp only [Lt]);omega) h1)]) [] [] hcx (by kernel_rfl)
  | false =>
   have e:=Eq.refl (F18 a0 a1);conv at e=>rhs;simp only [F18,h0,h1,aI]
   rw [e]
   exact rt (t1++[.c [0,1,2] (bDk (a0.1,a0.2) (a1.1,a1.2.1,a1.2.2) (by(try simp only [Lt]);omega) (by(try simp only [Lt]);omega) (by(try simp only [Lt]);omega) h1)]) [] [] hcx (by kernel_rfl)
def F19 (a0:Zm)(a1:List (Int)×Zt):Int :=
 (bif (((zM (a0.1,a0.2)):Int) != 0) then
  (zM (a0.1,a0.2))
 else
  (bif (!(F51 a1.2.2)) then
   1
  else
   (bif (!(F52 a1.2.1 0 2)) then
    1
   else
    (bif (((gQ (a0.1,a0.2) a1.1 a1.2.1).2:Int) != 0) then
     (gQ (a0.1,a0.2) a1.1 a1.2.1).2
    else
     (bif (decide (((gQ (a0.1,a0.2) a1.1 a1.2.1).1.1:Int) < a1.2.2.1)) then
      12
     else
      (bif (decide (((gQ (a0.1,a0.2) a1.1 a1.2.1).1.2:Int) > a1.2.2.2)) then
       12
      else
       0))))))
theorem C19 (a0:Zm)(a1:List (Int)×Zt)(l0_1:a0.1.length≤9223372036854775807)(l0_2:a0.2.length≤9223372036854775807)(l1_1:a1.1.length≤9223372036854775807):Con Tryz.prog 19 [(.a [(.s 0 0 a0.1.length 3),(.s 1 0 a0.2.length 3)]),(.a [(.s 2 0 a1.1.length 1),(iv a1.2.1),(iv a1.2.2.1),(iv a1.2.2.2)])] [(.live false true (flat dU a0.1)),(.live false true (flat eZ a0.2)),(.live false true (flat c3 a1.1))] (iv (F19 a0 a1)) []:=by
 refine aK Tryz.func19 (by kernel_rfl) fun cx hcx=>?_
 let t0:List (St Tryz.prog):=[.c [0,1] (C50 (a0.1,a0.2) (by(try simp only [Lt]);omega) (by(try simp only [Lt]);omega))]
 cases h0:(((zM (a0.1,a0.2)):Int) != 0) with
 | true =>
  have q0:=bne_iff_ne.1 h0
  have e:=Eq.refl (F19 a0 a1);conv at e=>rhs;simp only [F19,h0,aI]
  rw [e]
  exact rt (t0++[.d h0]) [] [] hcx (by kernel_rfl)
 | false =>
  have q0:=bne_eq_false_iff_eq.1 h0
  let t1:List (St Tryz.prog):=(t0++[.d h0,.c [] (C51 a1.2.2)])
  cases h1:(!(F51 a1.2.2)) with
  | true =>
   have e:=Eq.refl (F19 a0 a1);conv at e=>rhs;simp only [F19,h0,h1,aI]
   rw [e]
   exact rt (t1++[.d h1]) [] [] hcx (by kernel_rfl)
  | false =>
   let t2:List (St Tryz.prog):=(t1++[.d h1,.c [] (C52 a1.2.1 0 2)])
   cases h2:(!(F52 a1.2.1 0 2)) with
   | true =>
    have e:=Eq.refl (F19 a0 a1);conv at e=>rhs;simp only [F19,h0,h1,h2,aI]
    rw [e]
    exact rt (t2++[.d h2]) [] [] hcx (by kernel_rfl)
   | false =>
    let t3:List (St Tryz.prog):=(t2++[.d h2,.c [0,1,2] (bCl (a0.1,a0.2) a1.1 a1.2.1 (by(try simp only [Lt]);omega) (by(try simp only [Lt]);omega) (by omega))])
    cases h3:(((gQ (a0.1,a0.2) a1.1 a1.2.1).2:Int) != 0) with
    | true =>
     have q3:=bne_iff_ne.1 h3
     have e:=Eq.refl (F19 a0 a1);conv at e=>rhs;simp only [F19,h0,h1,h2,h3,aI]
     rw [e]
     exact rt (t3++[.d h3]) [] [] hcx (by kernel_rfl)
    | false =>
     have q3:=bne_eq_false_iff_eq.1 h3
     let t4:List (St Tryz.prog):=(t3++[.d h3])
     cases h4:(decide (((gQ (a0.1,a0.2) a1.1 a1.2.1).1.1:Int) < a1.2.2.1)) with
     | true =>
      have q4:=bY h4
      have e:=Eq.refl (F19 a0 a1);conv at e=>rhs;simp only [F19,h0,h1,h2,h3,h4,aI]
      rw [e]
      exact rt (t4++[.d h4]) [] [] hcx (by kernel_rfl)
     | false =>
      have q4:=cG h4
      let t5:List (St Tryz.prog):=(t4++[.d h4])
      cases h5:(decide (((gQ (a0.1,a0.2) a1.1 a1.2.1).1.2:Int) > a1.2.2.2)) with
      | true =>
       have q5:=bY h5
       have e:=Eq.refl (F19 a0 a1);conv at e=>rhs;simp only [F19,h0,h1,h2,h3,h4,h5,aI]
       rw [e]
       exact rt (t5++[.d h5]) [] [] hcx (by kernel_rfl)
      | false =>
       have q5:=cG h5
       have e:=Eq.refl (F19 a0 a1);conv at e=>rhs;simp only [F19,h0,h1,h2,h3,h4,h5,aI]
       rw [e]
       exact rt (t5++[.d h5]) [] [] hcx (by kernel_rfl)
def F5 (a0:Zm)(a1:List (Int)×Zt):Bool :=
 (bif (F9 (a0.1,a0.2) a1.2.1) then
  F10
 else
  (bif (decide (((a1.1.length:Int):Int) > 300)) then
   F10
  else
   (bif (((F18 (a0.1,a0.2) (a1.1,a1.2.1,a1.2.2)):Int) == (F19 (a0.1,a0.2) (a1.1,a1.2.1,a1.2.2))) then
    F10
   else
    false)))
theorem C5 (a0:Zm)(a1:List (Int)×Zt)(l0_1:a0.1.length≤9223372036854775807)(l0_2:a0.2.length≤9223372036854775807)(l1_1:a1.1.length≤9223372036854775807):Con Tryz.prog 5 [(.a [(.s 0 0 a0.1.length 3),(.s 1 0 a0.2.length 3)]),(.a [(.s 2 0 a1.1.length 1),(iv a1.2.1),(iv a1.2.2.1),(iv a1.2.2.2)])] [(.live false true (flat dU a0.1)),(.live false true (flat eZ a0.2)),(.live false true (flat c3 a1.1))] (.v (.bool (F5 a0 a1))) []:=by
 refine aK Tryz.func5 (by kernel_rfl) fun cx hcx=>?_
 let t0:List (St Tryz.prog):=[.c [0,1] (C9 (a0.1,a0.2) a1.2.1 (by(try simp only [Lt]);omega) (by(try simp only [Lt]);omega))]
 cases h0:(F9 (a0.1,a0.2) a1.2.1) with
 | true =>
  have e:=Eq.refl (F5 a0 a1);conv at e=>rhs;simp only [F5,h0,aI]
  rw [e]
  exact rt (t0++[.d h0,.c [] (C10)]) [] [] hcx (by kernel_rfl)
 | false =>
  let t1:List (St Tryz.prog):=(t0++[.d h0])
  cases h1:(decide (((a1.1.length:Int):Int) > 300)) with
  | true =>
   have q1:=bY h1
   have e:=Eq.refl (F5 a0 a1);conv at e=>rhs;simp only [F5,h0,h1,aI]
   rw [e]
   exact rt (t1++[.d h1,.c [] (C10)]) [] [] hcx (by kernel_rfl)
  | false =>
   have q1:=cG h1
   let t2:List (St Tryz.prog):=(t1++[.d h1,.c [0,1,2] (C18 (a0.1,a0.2) (a1.1,a1.2.1,a1.2.2) (by(try simp only [Lt]);omega) (by(try simp only [Lt]);omega) (by(try simp only [Lt]);omega)),.c [0,1,2] (C19 (a0.1,a0.2) (a1.1,a1.2.1,a1.2.2) (by(try simp only [Lt]);omega) (by(try simp only [Lt]);omega) (by(try simp only [Lt]);omega))])
   cases h2:(((F18 (a0.1,a0.2) (a1.1,a1.2.1,a1.2.2)):Int) == (F19 (a0.1,a0.2) (a1.1,a1.2.1,a1.2.2))) with
   | true =>
    have q2:=eq_of_beq h2
    have e:=Eq.refl (F5 a0 a1);conv at e=>rhs;simp only [F5,h0,h1,h2,aI]
    rw [e]
    exact rt (t2++[.d h2,.c [] (C10)]) [] [] hcx (by kernel_rfl)
   | false =>
    have q2:=ne_of_beq_false h2
    have e:=Eq.refl (F5 a0 a1);conv at e=>rhs;simp only [F5,h0,h1,h2,aI]
    rw [e]
    exact rt (t2++[.d h2]) [] [] hcx (by kernel_rfl)
theorem aZi {s:Int×Int} (h:qX s=true):vs s:=by
 unfold qX at h
 unfold vs
 by_cases h1:s.1≥-1099511627776<;>by_cases h2:s.1≤s.2<;>by_cases h3:s.2≤1099511627776<;>simp [h1,h2,h3] at h
 exact⟨by omega,h2,h3⟩
theorem aZj {a c:Int×Int} (ha:vs a)(hc:vs c):mJ (a,c)=0:=by
 unfold mJ
 have e1:qX (a,c).1=true:=aB2 (a:=a.1) (b:=a.2) ha.1 ha.2.1 ha.2.2
 have e2:qX (a,c).2=true:=aB2 (a:=c.1) (b:=c.2) hc.1 hc.2.1 hc.2.2
 rw [e1,e2];rfl
theorem aZk {a c:Int×Int} (ha:vs a)(hc:vs c):(F77 a c).1=(decide (c.1≤a.1)&&decide (a.2≤c.2)):=by
 unfold F77
 rw [aZj ha hc]
 by_cases h1:c.1≤a.1<;>simp [h1]
abbrev CT:=List Int×Zt
theorem aZl (m:ME)(c:CT):F18 m c=F19 m c:=by
 obtain⟨m1,m2⟩:=m
 obtain⟨q,d,s⟩:=c
 unfold F18 F19
 dsimp only
 rw [show zM (m1,m2)=fU (m1,m2) from(aK3 (m1,m2)).symm,←bDi,show F51 s=qX s from rfl,show F52 d 0 2=pK d 0 2 from rfl]
 cases h0:((fU (m1,m2):Int) != 0) with
 | true=>simp only [cond_true]
 | false =>
   simp only [cond_false]
   unfold zO
   dsimp only
   cases h1:qX s with
   | false=>rfl
   | true =>
     cases h2:pK d 0 2 with
     | false=>rfl
     | true =>
       simp only [Bool.not_true,cond_false]
       cases h3:(((cW (m1,m2) q d).2:Int) != 0) with
       | true=>simp only [cond_true]
       | false =>
         have hb:(cW (m1,m2) q d).2=0:=bne_eq_false_iff_eq.1 h3
         simp only [cond_false]
         rw [aZk (aZg hb) (aZi h1)]
         by_cases g1:s.1≤(cW (m1,m2) q d).1.1
         · by_cases g2:(cW (m1,m2) q d).1.2≤s.2
           · rw [bV g1,bV g2,cJ (by omega),cJ (by omega)];rfl
           · rw [bV g1,cJ g2,cJ (by omega),bV (by omega)];rfl
         · rw [cJ g1,bV (show(cW (m1,m2) q d).1.1 < s.1 by omega)];rfl
theorem aLu (m:ME)(c:CT):F5 m c=true:=by
 unfold F5
 rw [aZf,aZl]
 simp
end Go.Proofs.YtaeagjnpobdglaaGreat
