/-
  Parts of the proofs of the laws: the executor, what functions of the program compute, and that it is what the statements ask. No premise.
-/
import Derived.Test.YtlffahoikfahlaaGreatVPxt6
set_option linter.unusedVariables false
set_option linter.unusedSimpArgs false
set_option maxHeartbeats 4000000
open Int renaming toNat → tN
open Inhabited renaming default → dF
open Go.IntKind renaming wrap → iW
open BitVec renaming ofInt → bO
open Int renaming tdiv → tD
open Int renaming fdiv → fD
open Int renaming tmod → mD
namespace Go.Proofs.YtlffahoikfahlaaGreat
open Go.Proofs Go.Aw Go.RowKit
set_option maxRecDepth 100000
def aAr (a0:qJ):Int := (W ((W (a0.2.2.2.1+a0.2.2.2.2.2.2.1))+a0.2.2.2.2.2.2.2.2))
def kS1 (x:Int×Int×(Int×Int×Int)×Int×Int×Int×Int×Int×Int):List SV:=[(iv x.1),(iv x.2.1),(iv x.2.2.1.1),(iv x.2.2.1.2.1),(iv x.2.2.1.2.2),(iv x.2.2.2.1),(iv x.2.2.2.2.1),(iv x.2.2.2.2.2.1),(iv x.2.2.2.2.2.2.1),(iv x.2.2.2.2.2.2.2.1),(iv x.2.2.2.2.2.2.2.2)]
theorem bDa (a0:qJ):Con Tryz.prog 145 [(.a (kS1 a0))] [] (iv (aAr a0)) []:=by
 refine cS Tryz.func145 fun cx hcx=>?_
 have e:=Eq.refl (aAr a0);(conv at e=>rhs;simp only [aAr]);rw [e];exact rT [.i 0 6,.i 3 6,.i 5 6] hcx
noncomputable def xU:=dK [1,0,1,0,0] [] (aX Tryz.f141)
def xV (a0:qJ):LS:=⟨jT 35 [],[]⟩
def pV (a0:qJ):Unit->Int | () => 1
theorem aGv (a0:qJ) {cx:Cx} (hcx:cx.base=0):True->gG Tryz.f141 cx (iv (pV a0 ())) [] [] (.c xU.1::xU.2) (xV a0):=by
 intro hi;have e:=Eq.refl (pV a0 ());(conv at e=>rhs;simp only [pV]);rw [e];exact rT [] hcx
def kZ (a0:qJ):Int := (bif (!(rC a0.2.1 0 1048576))then(pV a0 ())else(bif (!(rC a0.1 (W (0 - a0.2.1)) a0.2.1))then(pV a0 ())else(bif (!(F91 a0.2.2.1 1073741824))then(pV a0 ())else(bif (!(rC a0.2.2.2.1 (-17179869184) 17179869184))then 1 else(bif (!(rC a0.2.2.2.2.1 (-17179869184) 17179869184))then 1 else(bif (!(rC a0.2.2.2.2.2.1 (-17179869184) 17179869184))then 1 else(bif (!(rC a0.2.2.2.2.2.2.1 (-17179869184) 17179869184))then 1 else(bif (!(rC a0.2.2.2.2.2.2.2.1 (-17179869184) 17179869184))then 1 else(bif (!(rC a0.2.2.2.2.2.2.2.2 (-17179869184) 17179869184))then 1 else 0)))))))))
theorem bDb (a0:qJ):Con Tryz.prog 141 [(.a (kS1 a0))] [] (iv (kZ a0)) []:=by
 refine cS Tryz.func141 fun cx hcx=>?_
 let t0:SL:=[.c [] (C98 a0.2.1 0 1048576)];cases h0:(!(rC a0.2.1 0 1048576))
 case true=>have e:=Eq.refl (kZ a0);(conv at e=>rhs;simp only [kZ,h0,aQ]);rw [e];refine gA (t0++[.d h0,.z 2]) [] [] hcx xU (xV a0) ?_;exact aGv a0 hcx trivial
 let t1:SL:=t0++[.d h0,.c [] (C98 a0.1 (W (0 - a0.2.1)) a0.2.1)];cases h1:(!(rC a0.1 (W (0 - a0.2.1)) a0.2.1))
 case true=>have e:=Eq.refl (kZ a0);(conv at e=>rhs;simp only [kZ,h0,h1,aQ]);rw [e];refine gA (t1++[.d h1,.z 2]) [] [] hcx xU (xV a0) ?_;exact aGv a0 hcx trivial
 let t2:SL:=t1++[.d h1,.c [] (C91 a0.2.2.1 1073741824)];cases h2:(!(F91 a0.2.2.1 1073741824))
 case true=>have e:=Eq.refl (kZ a0);(conv at e=>rhs;simp only [kZ,h0,h1,h2,aQ]);rw [e];refine gA (t2++[.d h2,.z 2]) [] [] hcx xU (xV a0) ?_;exact aGv a0 hcx trivial
 let t3:SL:=t2++[.d h2,.u 200,.T,.i 0 6,.c [] (C98 a0.2.2.2.1 (-17179869184) 17179869184)];cases h3:(!(rC a0.2.2.2.1 (-17179869184) 17179869184))
 case true=>have e:=Eq.refl (kZ a0);(conv at e=>rhs;simp only [kZ,h0,h1,h2,h3,aQ]);rw [e];exact rT (t3++[.d h3]) hcx
 let t4:SL:=t3++[.d h3,.u 0,.T,.i 1 6,.c [] (C98 a0.2.2.2.2.1 (-17179869184) 17179869184)];cases h4:(!(rC a0.2.2.2.2.1 (-17179869184) 17179869184))
 case true=>have e:=Eq.refl (kZ a0);(conv at e=>rhs;simp only [kZ,h0,h1,h2,h3,h4,aQ]);rw [e];exact rT (t4++[.d h4]) hcx
 let t5:SL:=t4++[.d h4,.u 0,.T,.i 2 6,.c [] (C98 a0.2.2.2.2.2.1 (-17179869184) 17179869184)];cases h5:(!(rC a0.2.2.2.2.2.1 (-17179869184) 17179869184))
 case true=>have e:=Eq.refl (kZ a0);(conv at e=>rhs;simp only [kZ,h0,h1,h2,h3,h4,h5,aQ]);rw [e];exact rT (t5++[.d h5]) hcx
 let t6:SL:=t5++[.d h5,.u 0,.T,.i 3 6,.c [] (C98 a0.2.2.2.2.2.2.1 (-17179869184) 17179869184)];cases h6:(!(rC a0.2.2.2.2.2.2.1 (-17179869184) 17179869184))
 case true=>have e:=Eq.refl (kZ a0);(conv at e=>rhs;simp only [kZ,h0,h1,h2,h3,h4,h5,h6,aQ]);rw [e];exact rT (t6++[.d h6]) hcx
 let t7:SL:=t6++[.d h6,.u 0,.T,.i 4 6,.c [] (C98 a0.2.2.2.2.2.2.2.1 (-17179869184) 17179869184)];cases h7:(!(rC a0.2.2.2.2.2.2.2.1 (-17179869184) 17179869184))
 case true=>have e:=Eq.refl (kZ a0);(conv at e=>rhs;simp only [kZ,h0,h1,h2,h3,h4,h5,h6,h7,aQ]);rw [e];exact rT (t7++[.d h7]) hcx
 let t8:SL:=t7++[.d h7,.u 0,.T,.i 5 6,.c [] (C98 a0.2.2.2.2.2.2.2.2 (-17179869184) 17179869184)];cases h8:(!(rC a0.2.2.2.2.2.2.2.2 (-17179869184) 17179869184))
 case true=>have e:=Eq.refl (kZ a0);(conv at e=>rhs;simp only [kZ,h0,h1,h2,h3,h4,h5,h6,h7,h8,aQ]);rw [e];exact rT (t8++[.d h8]) hcx
 have e:=Eq.refl (kZ a0);(conv at e=>rhs;simp only [kZ,h0,h1,h2,h3,h4,h5,h6,h7,h8,aQ]);rw [e];exact rT (t8++[.d h8,.u 0,.F]) hcx
def aAs (a0:Zt)(a1:Int):Int := (bif (!(F91 a0 384))then 1 else(bif (!(rC a1 0 2))then 1 else(bif (((a0.1:Int) == 0)&&(((a0.2.1:Int) == 0)&&(((a0.2.2:Int) == 0)&&true)))then 11 else 0)))
theorem bDc (a0:Zt)(a1:Int):Con Tryz.prog 142 [(.a (k3 a0)),(iv a1)] [] (iv (aAs a0 a1)) []:=by
 refine cS Tryz.func142 fun cx hcx=>?_
 let t0:SL:=[.c [] (C91 a0 384)];cases h0:(!(F91 a0 384))
 case true=>have e:=Eq.refl (aAs a0 a1);(conv at e=>rhs;simp only [aAs,h0,aQ]);rw [e];exact rT (t0++[.d h0]) hcx
 let t1:SL:=t0++[.d h0,.c [] (C98 a1 0 2)];cases h1:(!(rC a1 0 2))
 case true=>have e:=Eq.refl (aAs a0 a1);(conv at e=>rhs;simp only [aAs,h0,h1,aQ]);rw [e];exact rT (t1++[.d h1]) hcx
 let t2:SL:=t1++[.d h1];cases h2:(((a0.1:Int) == 0)&&(((a0.2.1:Int) == 0)&&(((a0.2.2:Int) == 0)&&true)))
 case true=>have e:=Eq.refl (aAs a0 a1);(conv at e=>rhs;simp only [aAs,h0,h1,h2,aQ]);rw [e];exact rT (t2++[.d h2]) hcx
 have e:=Eq.refl (aAs a0 a1);(conv at e=>rhs;simp only [aAs,h0,h1,h2,aQ]);rw [e];exact rT (t2++[.d h2]) hcx
def F95 (a0:qJ)(a1:Zt)(a2:Int):Int := (bif (((kZ a0):Int) != 0)then(kZ a0)else(aAs a1 a2))
theorem C95 (a0:qJ)(a1:Zt)(a2:Int):Con Tryz.prog 95 [(.a (kS1 a0)),(.a (k3 a1)),(iv a2)] [] (iv (F95 a0 a1 a2)) []:=by
 refine cS Tryz.func95 fun cx hcx=>?_
 let t0:SL:=[.c [] (bDb a0)];cases h0:(((kZ a0):Int) != 0)
 case true=>have q0:=bne_iff_ne.1 h0;have e:=Eq.refl (F95 a0 a1 a2);(conv at e=>rhs;simp only [F95,h0,aQ]);rw [e];exact rT (t0++[.d h0]) hcx
 have q0:=bne_eq_false_iff_eq.1 h0;have e:=Eq.refl (F95 a0 a1 a2);(conv at e=>rhs;simp only [F95,h0,aQ]);rw [e];exact rT (t0++[.d h0,.c [] (bDc a1 a2)]) hcx
structure UOK (u:Zt):Prop where
 bd:(-384<=u.1/\u.1<=384)/\(-384<=u.2.1/\u.2.1<=384)/\(-384<=u.2.2/\u.2.2<=384)
 nz:u.1≠0\/u.2.1≠0\/u.2.2≠0
theorem sC (n a b:Int):rC n a b=decide (a<=n/\n<=b):=by
 unfold rC;by_cases h1:a<=n<;>by_cases h2:n<=b<;>simp [h1,h2]
theorem aFi {n a b:Int} (h:(!rC n a b)=false):a<=n/\n<=b:=by
 rw [sC] at h;simpa using h
theorem xW {a:Int} (h:-384<=a/\a<=384):0<=a*a/\a*a<=147456/\(a≠0->1<=a*a):=by
 have h1:=dN (a:=384) (b:=384) (x:=a) (y:=a) (by omega) (by omega);have h2:0<=a*a:=by
  rcases Int.lt_or_le a 0 with h | h
  ·exact Int.mul_nonneg_of_nonpos_of_nonpos (by omega) (by omega)
  ·exact Int.mul_nonneg h h
 refine⟨h2,by omega,fun hn=>?_⟩;have:a*a≠0:=Int.mul_ne_zero hn hn;omega
def n2 (u:Zt):Int:=u.1*u.1+u.2.1*u.2.1+u.2.2*u.2.2
theorem aAf {u:Zt} (h:UOK u):1<=n2 u/\n2 u<=442368:=by
 obtain⟨a1,a2,a3⟩:=xW h.bd.1;obtain⟨b1,b2,b3⟩:=xW h.bd.2.1;obtain⟨c1,c2,c3⟩:=xW h.bd.2.2;unfold n2;refine⟨?_,by omega⟩;rcases h.nz with h' | h' | h'
 ·have:=a3 h';omega
 ·have:=b3 h';omega
 ·have:=c3 h';omega
theorem aDm {u:Zt} (hb:(-384<=u.1/\u.1<=384)/\(-384<=u.2.1/\u.2.1<=384)/\(-384<=u.2.2/\u.2.2<=384)):dB u u=n2 u:=by
 obtain⟨a1,a2,a3⟩:=xW hb.1;obtain⟨b1,b2,b3⟩:=xW hb.2.1;obtain⟨c1,c2,c3⟩:=xW hb.2.2;unfold dB n2;rw [aG (n:=u.1*u.1) (by omega) (by omega),aG (n:=u.2.1*u.2.1) (by omega) (by omega),aG (n:=u.2.2*u.2.2) (by omega) (by omega),aG (n:=u.1*u.1+u.2.1*u.2.1) (by omega) (by omega),aG (by omega) (by omega)]
theorem aR9 {u:Zt} (h:UOK u):1<=n2 u*n2 u/\n2 u*n2 u<=195689447424:=by
 have hb:=aAf h;have h1:=dN (a:=442368) (b:=442368) (x:=n2 u) (y:=n2 u) (by omega) (by omega);have h2:0 < n2 u*n2 u:=Int.mul_pos (by omega) (by omega);omega
theorem aWb {u:Zt} (h:UOK u):W (3*(dB u u))=3*n2 u:=by
 have hb:=aAf h;rw [aDm h.bd,aG (by omega) (by omega)]
theorem aWc {u:Zt} (h:UOK u):W ((W (24*(dB u u)))*(dB u u))=24*(n2 u*n2 u):=by
 have hb:=aAf h;have hs:=aR9 h;have e:24*n2 u*n2 u=24*(n2 u*n2 u):=Int.mul_assoc _ _ _;rw [aDm h.bd,aG (n:=24*n2 u) (by omega) (by omega),e,aG (by omega) (by omega)]
theorem bAt {u:Zt} (h:UOK u):0 < W (3*(dB u u))/\W (3*(dB u u)) < 9223372036854775808:=by
 have hb:=aAf h;rw [aWb h];omega
theorem bAu {u:Zt} (h:UOK u):0 < W ((W (24*(dB u u)))*(dB u u))/\W ((W (24*(dB u u)))*(dB u u)) < 9223372036854775808:=by
 have hs:=aR9 h;rw [aWc h];omega
theorem aX9 {n d:Int} (hd:0 < d/\d < 9223372036854775808)(h:¬(dL n 1048576).1≥iW .u64 d):DvP (dL n 1048576).1 (dL n 1048576).2 (iW .u64 d):=by
 have e:iW .u64 d=d:=pH (by omega);have h1:0<=(dL n 1048576).1:=by unfold dL;exact(aO4 _).1
 have h2:0<=(dL n 1048576).2/\(dL n 1048576).2 < 18446744073709551616:=by unfold dL;exact aO4 _
 rw [e] at h ⊢;exact⟨hd,⟨h1,by omega⟩,h2⟩
theorem aGw {p:Zt} {k:Int} (hk:0<=k/\k<=1073741824):F91 p k=true↔(-k<=p.1/\p.1<=k)/\(-k<=p.2.1/\p.2.1<=k)/\(-k<=p.2.2/\p.2.2<=k):=by
 unfold F91;rw [sC,sC,sC,aG (n:=0 - k) (by omega) (by omega)];by_cases h1:0 - k<=p.1/\p.1<=k<;>by_cases h2:0 - k<=p.2.1/\p.2.1<=k<;>by_cases h3:0 - k<=p.2.2/\p.2.2<=k<;>simp [h1,h2,h3]<;>omega
theorem aYa {u:Zt} {o:Int} (h:aAs u o=0):UOK u/\0<=o/\o<=2:=by
 unfold aAs at h;cases h1:F91 u 384
 case false=>rw [h1] at h;simp only [Bool.not_false,cond_true] at h;exact absurd h (by decide)
 have hn:=(aGw (by omega)).1 h1;rw [h1,sC] at h;by_cases h2:0<=o/\o<=2
 ·rw [cL h2] at h;simp only [Bool.not_true,cond_false] at h;refine⟨⟨by omega,?_⟩,h2⟩;by_cases a:u.1=0
  ·by_cases b:u.2.1=0
   ·by_cases c:u.2.2=0
    ·rw [a,b,c] at h;exact absurd h (by decide)
    ·exact .inr (.inr c)
   ·exact .inr (.inl b)
  ·exact .inl a
 ·rw [cV h2] at h;simp only [Bool.not_true,Bool.not_false,aQ] at h;exact absurd h (by decide)
theorem aSa {m:qJ} {u:Zt} {o:Int} (h:((F95 m u o:Int) != 0)=false):kZ m=0/\UOK u/\0<=o/\o<=2:=by
 have h:=bne_eq_false_iff_eq.1 h;unfold F95 at h;cases h1:((kZ m:Int) != 0)
 case true=>rw [h1,cond_true] at h;exact absurd h (bne_iff_ne.1 h1)
 rw [h1,cond_false] at h;exact⟨bne_eq_false_iff_eq.1 h1,aYa h⟩
def kA (a0:Zt):Zt := a0
theorem nS (a0:Zt):Con Tryz.prog 94 [(.a (k3 a0))] [] (.a (k3 (kA a0))) []:=by
 refine cS Tryz.func94 fun cx hcx=>?_
 have e:=Eq.refl (kA a0);(conv at e=>rhs;simp only [kA]);rw [e];exact rT [] hcx
def F93:Zs×Zs×Zs×Zs×Zs×Int×Int := ((0,0),(0,1),(0,2),(1,1),(1,2),(2,2))
theorem C93:Con Tryz.prog 93 [] [] (.a [(iv F93.1.1),(iv F93.1.2),(iv F93.2.1.1),(iv F93.2.1.2),(iv F93.2.2.1.1),(iv F93.2.2.1.2),(iv F93.2.2.2.1.1),(iv F93.2.2.2.1.2),(iv F93.2.2.2.2.1.1),(iv F93.2.2.2.2.1.2),(iv F93.2.2.2.2.2.1),(iv F93.2.2.2.2.2.2)]) []:=by
 refine cS Tryz.func93 fun cx hcx=>?_
 have e:=Eq.refl F93;(conv at e=>rhs;simp only [F93]);rw [e];exact rT [] hcx
def pI (a0 a1:Int):Zs×Bool := (bif (decide (((dL (iW .u64 (bX a0 (W (0 - a0)))) 1048576).1:Int)≥(iW .u64 a1)))then((0,0),false)else(bif (decide (((jD (dL (iW .u64 (bX a0 (W (0 - a0)))) 1048576).1 (dL (iW .u64 (bX a0 (W (0 - a0)))) 1048576).2 (iW .u64 a1)).1:Int) > 1099511627776))then((0,0),false)else(bif (decide (((jD (dL (iW .u64 (bX a0 (W (0 - a0)))) 1048576).1 (dL (iW .u64 (bX a0 (W (0 - a0)))) 1048576).2 (iW .u64 a1)).2:Int) > 0))then(bif (decide ((a0:Int) < 0))then(((W (0 - (W ((W (jD (dL (iW .u64 (bX a0 (W (0 - a0)))) 1048576).1 (dL (iW .u64 (bX a0 (W (0 - a0)))) 1048576).2 (iW .u64 a1)).1)+1)))),(W (0 - (W (jD (dL (iW .u64 (bX a0 (W (0 - a0)))) 1048576).1 (dL (iW .u64 (bX a0 (W (0 - a0)))) 1048576).2 (iW .u64 a1)).1)))),(rU ((W (0 - (W ((W (jD (dL (iW .u64 (bX a0 (W (0 - a0)))) 1048576).1 (dL (iW .u64 (bX a0 (W (0 - a0)))) 1048576).2 (iW .u64 a1)).1)+1)))),(W (0 - (W (jD (dL (iW .u64 (bX a0 (W (0 - a0)))) 1048576).1 (dL (iW .u64 (bX a0 (W (0 - a0)))) 1048576).2 (iW .u64 a1)).1))))))else(((W (jD (dL (iW .u64 (bX a0 (W (0 - a0)))) 1048576).1 (dL (iW .u64 (bX a0 (W (0 - a0)))) 1048576).2 (iW .u64 a1)).1),(W ((W (jD (dL (iW .u64 (bX a0 (W (0 - a0)))) 1048576).1 (dL (iW .u64 (bX a0 (W (0 - a0)))) 1048576).2 (iW .u64 a1)).1)+1))),(rU ((W (jD (dL (iW .u64 (bX a0 (W (0 - a0)))) 1048576).1 (dL (iW .u64 (bX a0 (W (0 - a0)))) 1048576).2 (iW .u64 a1)).1),(W ((W (jD (dL (iW .u64 (bX a0 (W (0 - a0)))) 1048576).1 (dL (iW .u64 (bX a0 (W (0 - a0)))) 1048576).2 (iW .u64 a1)).1)+1))))))else(bif (decide ((a0:Int) < 0))then(((W (0 - (W (jD (dL (iW .u64 (bX a0 (W (0 - a0)))) 1048576).1 (dL (iW .u64 (bX a0 (W (0 - a0)))) 1048576).2 (iW .u64 a1)).1))),(W (0 - (W (jD (dL (iW .u64 (bX a0 (W (0 - a0)))) 1048576).1 (dL (iW .u64 (bX a0 (W (0 - a0)))) 1048576).2 (iW .u64 a1)).1)))),(rU ((W (0 - (W (jD (dL (iW .u64 (bX a0 (W (0 - a0)))) 1048576).1 (dL (iW .u64 (bX a0 (W (0 - a0)))) 1048576).2 (iW .u64 a1)).1))),(W (0 - (W (jD (dL (iW .u64 (bX a0 (W (0 - a0)))) 1048576).1 (dL (iW .u64 (bX a0 (W (0 - a0)))) 1048576).2 (iW .u64 a1)).1))))))else(((W (jD (dL (iW .u64 (bX a0 (W (0 - a0)))) 1048576).1 (dL (iW .u64 (bX a0 (W (0 - a0)))) 1048576).2 (iW .u64 a1)).1),(W (jD (dL (iW .u64 (bX a0 (W (0 - a0)))) 1048576).1 (dL (iW .u64 (bX a0 (W (0 - a0)))) 1048576).2 (iW .u64 a1)).1)),(rU ((W (jD (dL (iW .u64 (bX a0 (W (0 - a0)))) 1048576).1 (dL (iW .u64 (bX a0 (W (0 - a0)))) 1048576).2 (iW .u64 a1)).1),(W (jD (dL (iW .u64 (bX a0 (W (0 - a0)))) 1048576).1 (dL (iW .u64 (bX a0 (W (0 - a0)))) 1048576).2 (iW .u64 a1)).1))))))))
theorem bDd (a0 a1:Int)(hd:0 < a1/\a1 < 9223372036854775808):Con Tryz.prog 176 [(iv a0),(iv a1)] [] (.t [(.a (k2 (pI a0 a1).1)),(.v (.bool (pI a0 a1).2))]) []:=by
 refine cS Tryz.func176 fun cx hcx=>?_
 let t0:SL:=[.c [] (bCp (iW .u64 (bX a0 (W (0 - a0)))) 1048576)];cases h0:(decide (((dL (iW .u64 (bX a0 (W (0 - a0)))) 1048576).1:Int)≥(iW .u64 a1)))
 case true=>have q0:=dE h0;have e:=Eq.refl (pI a0 a1);(conv at e=>rhs;simp only [pI,h0,aQ]);rw [e];exact rT (t0++[.d h0]) hcx
 have q0:=dO h0;let t1:SL:=t0++[.d h0,.c [] (bC6 (dL (iW .u64 (bX a0 (W (0 - a0)))) 1048576).1 (dL (iW .u64 (bX a0 (W (0 - a0)))) 1048576).2 (iW .u64 a1)  (aX9 hd (dO h0)))];cases h1:(decide (((jD (dL (iW .u64 (bX a0 (W (0 - a0)))) 1048576).1 (dL (iW .u64 (bX a0 (W (0 - a0)))) 1048576).2 (iW .u64 a1)).1:Int) > 1099511627776))
 case true=>have q1:=dE h1;have e:=Eq.refl (pI a0 a1);(conv at e=>rhs;simp only [pI,h0,h1,aQ]);rw [e];exact rT (t1++[.d h1]) hcx
 have q1:=dO h1;let t2:SL:=t1++[.d h1];cases h2:(decide (((jD (dL (iW .u64 (bX a0 (W (0 - a0)))) 1048576).1 (dL (iW .u64 (bX a0 (W (0 - a0)))) 1048576).2 (iW .u64 a1)).2:Int) > 0))
 case true=>
  have q2:=dE h2;let t3:SL:=t2++[.d h2];cases h3:(decide ((a0:Int) < 0))
  case true=>have q3:=dE h3;have e:=Eq.refl (pI a0 a1);(conv at e=>rhs;simp only [pI,h0,h1,h2,h3,aQ]);rw [e];exact rT (t3++[.d h3,.c [] (C55 ((W (0 - (W ((W (jD (dL (iW .u64 (bX a0 (W (0 - a0)))) 1048576).1 (dL (iW .u64 (bX a0 (W (0 - a0)))) 1048576).2 (iW .u64 a1)).1)+1)))),(W (0 - (W (jD (dL (iW .u64 (bX a0 (W (0 - a0)))) 1048576).1 (dL (iW .u64 (bX a0 (W (0 - a0)))) 1048576).2 (iW .u64 a1)).1)))))]) hcx
  have q3:=dO h3;have e:=Eq.refl (pI a0 a1);(conv at e=>rhs;simp only [pI,h0,h1,h2,h3,aQ]);rw [e];exact rT (t3++[.d h3,.c [] (C55 ((W (jD (dL (iW .u64 (bX a0 (W (0 - a0)))) 1048576).1 (dL (iW .u64 (bX a0 (W (0 - a0)))) 1048576).2 (iW .u64 a1)).1),(W ((W (jD (dL (iW .u64 (bX a0 (W (0 - a0)))) 1048576).1 (dL (iW .u64 (bX a0 (W (0 - a0)))) 1048576).2 (iW .u64 a1)).1)+1))))]) hcx
 have q2:=dO h2;let t3:SL:=t2++[.d h2];cases h3:(decide ((a0:Int) < 0))
 case true=>have q3:=dE h3;have e:=Eq.refl (pI a0 a1);(conv at e=>rhs;simp only [pI,h0,h1,h2,h3,aQ]);rw [e];exact rT (t3++[.d h3,.c [] (C55 ((W (0 - (W (jD (dL (iW .u64 (bX a0 (W (0 - a0)))) 1048576).1 (dL (iW .u64 (bX a0 (W (0 - a0)))) 1048576).2 (iW .u64 a1)).1))),(W (0 - (W (jD (dL (iW .u64 (bX a0 (W (0 - a0)))) 1048576).1 (dL (iW .u64 (bX a0 (W (0 - a0)))) 1048576).2 (iW .u64 a1)).1)))))]) hcx
 have q3:=dO h3;have e:=Eq.refl (pI a0 a1);(conv at e=>rhs;simp only [pI,h0,h1,h2,h3,aQ]);rw [e];exact rT (t3++[.d h3,.c [] (C55 ((W (jD (dL (iW .u64 (bX a0 (W (0 - a0)))) 1048576).1 (dL (iW .u64 (bX a0 (W (0 - a0)))) 1048576).2 (iW .u64 a1)).1),(W (jD (dL (iW .u64 (bX a0 (W (0 - a0)))) 1048576).1 (dL (iW .u64 (bX a0 (W (0 - a0)))) 1048576).2 (iW .u64 a1)).1)))]) hcx
def kc5 (n:Int):SV:=.v (.int .u8 n)
theorem K5:KeyOK T0 5 kc5:=aWw (fun _=>by kernel_rfl) (fun _ _=>by kernel_rfl)
theorem bDe:Con Tryz.prog 204 [] [] (.m 0) [(.map (Aw.mapE kc5 (fun x=>x) [(43,(.a [(.v (.func (.func 206) #[] #[])),(.v (.func (.func 207) #[] #[]))])),(45,(.a [(.v (.func (.func 206) #[] #[])),(.v (.func (.func 208) #[] #[]))])),(42,(.a [(.v (.func (.func 206) #[] #[])),(.v (.func (.func 209) #[] #[]))])),(47,(.a [(.v (.func (.func 213) #[] #[])),(.v (.func (.func 214) #[] #[]))]))]))]:=by
 refine cS Tryz.func204 fun cx hcx=>?_
 exact rt [.mPl K5 [] 43 (.a [(.v (.func (.func 206) #[] #[])),(.v (.func (.func 207) #[] #[]))]),.mPl K5 [(43,(.a [(.v (.func (.func 206) #[] #[])),(.v (.func (.func 207) #[] #[]))]))] 45 (.a [(.v (.func (.func 206) #[] #[])),(.v (.func (.func 208) #[] #[]))]),.mPl K5 [(43,(.a [(.v (.func (.func 206) #[] #[])),(.v (.func (.func 207) #[] #[]))])),(45,(.a [(.v (.func (.func 206) #[] #[])),(.v (.func (.func 208) #[] #[]))]))] 42 (.a [(.v (.func (.func 206) #[] #[])),(.v (.func (.func 209) #[] #[]))]),.mPl K5 [(43,(.a [(.v (.func (.func 206) #[] #[])),(.v (.func (.func 207) #[] #[]))])),(45,(.a [(.v (.func (.func 206) #[] #[])),(.v (.func (.func 208) #[] #[]))])),(42,(.a [(.v (.func (.func 206) #[] #[])),(.v (.func (.func 209) #[] #[]))]))] 47 (.a [(.v (.func (.func 213) #[] #[])),(.v (.func (.func 214) #[] #[]))])] [] [0] hcx (by kernel_rfl)
def aO5 (a0:Zs):Int := 0
theorem bDf (a0:Zs):Con Tryz.prog 206 [(.a [(iv a0.1),(iv a0.2)])] [] (iv (aO5 a0)) []:=by
 refine cS Tryz.func206 fun cx hcx=>?_
 have e:=Eq.refl (aO5 a0);(conv at e=>rhs;simp only [aO5]);rw [e];exact rT [] hcx
def aEq (a0 a1:Int):Int := (W ((W ((fD a0 (2 ^ (min (tN 20) 64)))*a1))+(fD (W ((W ((bO 64 a0 &&& bO 64 1048575).toNat:Int))*a1)) (2 ^ (min (tN 20) 64)))))
theorem aSb (a0 a1:Int):Con Tryz.prog 211 [(iv a0),(iv a1)] [] (iv (aEq a0 a1)) []:=by
 refine cS Tryz.func211 fun cx hcx=>?_
 have e:=Eq.refl (aEq a0 a1);(conv at e=>rhs;simp only [aEq]);rw [e];exact rT [.p (show 0<=(20:Int) from by decide),.p (show 0<=(20:Int) from by decide)] hcx
def aGx (a0 a1:Int):Int := (W (0 - (aEq (W (0 - a0)) a1)))
theorem aUl (a0 a1:Int):Con Tryz.prog 212 [(iv a0),(iv a1)] [] (iv (aGx a0 a1)) []:=by
 refine cS Tryz.func212 fun cx hcx=>?_
 have e:=Eq.refl (aGx a0 a1);(conv at e=>rhs;simp only [aGx]);rw [e];exact rT [.c [] (aSb (W (0 - a0)) a1)] hcx
def dU (a0 a1:Zs):Zs := ((iQ (iQ (iQ (aEq a0.1 a1.1) (aEq a0.1 a1.2)) (aEq a0.2 a1.1)) (aEq a0.2 a1.2)),(bX (bX (bX (aGx a0.1 a1.1) (aGx a0.1 a1.2)) (aGx a0.2 a1.1)) (aGx a0.2 a1.2)))
theorem aDn (a0 a1:Zs):Con Tryz.prog 210 [(.a [(iv a0.1),(iv a0.2)]),(.a [(iv a1.1),(iv a1.2)]),(.v (.func (.func 211) #[] #[])),(.v (.func (.func 212) #[] #[]))] [] (.t (k2 (dU a0 a1))) []:=by
 refine cS Tryz.func210 fun cx hcx=>?_
 have e:=Eq.refl (dU a0 a1);(conv at e=>rhs;simp only [dU]);rw [e];exact rT [.c [] (aSb a0.1 a1.1),.c [] (aSb a0.1 a1.2),.c [] (aSb a0.2 a1.1),.c [] (aSb a0.2 a1.2),.c [] (aUl a0.1 a1.1),.c [] (aUl a0.1 a1.2),.c [] (aUl a0.2 a1.1),.c [] (aUl a0.2 a1.2)] hcx
def aGy (a0 a1:Zs):Zs := ((dU a0 a1).1,(dU a0 a1).2)
theorem bDg (a0 a1:Zs):Con Tryz.prog 209 [(.a [(iv a0.1),(iv a0.2)]),(.a [(iv a1.1),(iv a1.2)])] [] (.t (k2 (aGy a0 a1))) []:=by
 refine cS Tryz.func209 fun cx hcx=>?_
 have e:=Eq.refl (aGy a0 a1);(conv at e=>rhs;simp only [aGy]);rw [e];exact rT [.c [] (aDn a0 a1)] hcx
def iP (a1 a2:Zs):Zs×Int := (bif (((nH (a1,a2)):Int) != 0)then((0,0),(nH (a1,a2)))else(bif (((aO5 a2):Int) != 0)then((0,0),(aO5 a2))else((rK (aGy a1 a2).1 (aGy a1 a2).2).1,(rK (aGy a1 a2).1 (aGy a1 a2).2).2)))
theorem aSc (a1 a2:Zs):Con Tryz.prog 197 [(.v (.int .u8 42)),(.a [(iv a1.1),(iv a1.2)]),(.a [(iv a2.1),(iv a2.2)])] [] (.t [(.a (k2 (iP a1 a2).1)),(iv (iP a1 a2).2)]) []:=by
 refine cS Tryz.func197 fun cx hcx=>?_
 let t0:SL:=[.c [3] (aVi (a1,a2))];cases h0:(((nH (a1,a2)):Int) != 0)
 case true=>have q0:=bne_iff_ne.1 h0;have e:=Eq.refl (iP a1 a2);(conv at e=>rhs;simp only [iP,h0,aQ]);rw [e];exact rT (t0++[.d h0]) hcx
 have q0:=bne_eq_false_iff_eq.1 h0;let t1:SL:=t0++[.d h0,.c [] (bDe),.mG K5 (fun x=>x) [(43,(.a [(.v (.func (.func 206) #[] #[])),(.v (.func (.func 207) #[] #[]))])),(45,(.a [(.v (.func (.func 206) #[] #[])),(.v (.func (.func 208) #[] #[]))])),(42,(.a [(.v (.func (.func 206) #[] #[])),(.v (.func (.func 209) #[] #[]))])),(47,(.a [(.v (.func (.func 213) #[] #[])),(.v (.func (.func 214) #[] #[]))]))] 42 (.a [(.v .nilFunc),(.v .nilFunc)]),.c [] (bDf a2)];cases h1:(((aO5 a2):Int) != 0)
 case true=>have q1:=bne_iff_ne.1 h1;have e:=Eq.refl (iP a1 a2);(conv at e=>rhs;simp only [iP,h0,h1,aQ]);rw [e];exact rT (t1++[.d h1]) hcx
 have q1:=bne_eq_false_iff_eq.1 h1;have e:=Eq.refl (iP a1 a2);(conv at e=>rhs;simp only [iP,h0,h1,aQ]);rw [e];exact rT (t1++[.d h1,.c [] (bDg a1 a2),.c [] (C57 (aGy a1 a2).1 (aGy a1 a2).2)]) hcx
def aJo (a0 a1:Zs):Zs×Int := ((iP a0 a1).1,(iP a0 a1).2)
theorem bDh (a0 a1:Zs):Con Tryz.prog 177 [(.a [(iv a0.1),(iv a0.2)]),(.a [(iv a1.1),(iv a1.2)])] [] (.t [(.a (k2 (aJo a0 a1).1)),(iv (aJo a0 a1).2)]) []:=by
 refine cS Tryz.func177 fun cx hcx=>?_
 have e:=Eq.refl (aJo a0 a1);(conv at e=>rhs;simp only [aJo]);rw [e];exact rT [.c [] (aSc a0 a1)] hcx
def uS (a0 a1 a2:Int):Zs×Int := (bif (!(pI a0 a1).2)then((0,0),4)else(bif (((qK a2 1).2:Int) != 0)then((0,0),(qK a2 1).2)else((aJo (pI a0 a1).1 (qK a2 1).1).1,(aJo (pI a0 a1).1 (qK a2 1).1).2)))
theorem bAv (a0 a1 a2:Int)(hd:0 < a1/\a1 < 9223372036854775808):Con Tryz.prog 143 [(iv a0),(iv a1),(iv a2)] [] (.t [(.a (k2 (uS a0 a1 a2).1)),(iv (uS a0 a1 a2).2)]) []:=by
 refine cS Tryz.func143 fun cx hcx=>?_
 let t0:SL:=[.c [] (bDd a0 a1  hd)];cases h0:(!(pI a0 a1).2)
 case true=>have e:=Eq.refl (uS a0 a1 a2);(conv at e=>rhs;simp only [uS,h0,aQ]);rw [e];exact rT (t0++[.d h0]) hcx
 let t1:SL:=t0++[.d h0,.c [] (C79 a2 1)];cases h1:(((qK a2 1).2:Int) != 0)
 case true=>have q1:=bne_iff_ne.1 h1;have e:=Eq.refl (uS a0 a1 a2);(conv at e=>rhs;simp only [uS,h0,h1,aQ]);rw [e];exact rT (t1++[.d h1]) hcx
 have q1:=bne_eq_false_iff_eq.1 h1;have e:=Eq.refl (uS a0 a1 a2);(conv at e=>rhs;simp only [uS,h0,h1,aQ]);rw [e];exact rT (t1++[.d h1,.c [] (bDh (pI a0 a1).1 (qK a2 1).1)]) hcx
def aAt (a0:qJ)(a1:Zt):Int := (W ((W ((W ((W ((W ((W (0+(W ((W ((kA a1).1*a0.2.2.2.1))*(kA a1).1))))+(W ((W ((W ((kA a1).1*a0.2.2.2.2.1))*(kA a1).2.1))*2))))+(W ((W ((W ((kA a1).1*a0.2.2.2.2.2.1))*(kA a1).2.2))*2))))+(W ((W ((kA a1).2.1*a0.2.2.2.2.2.2.1))*(kA a1).2.1))))+(W ((W ((W ((kA a1).2.1*a0.2.2.2.2.2.2.2.1))*(kA a1).2.2))*2))))+(W ((W ((kA a1).2.2*a0.2.2.2.2.2.2.2.2))*(kA a1).2.2))))
theorem bDi (a0:qJ)(a1:Zt):Con Tryz.prog 144 [(.a (kS1 a0)),(.a (k3 a1))] [] (iv (aAt a0 a1)) []:=by
 refine cS Tryz.func144 fun cx hcx=>?_
 have e:=Eq.refl (aAt a0 a1);(conv at e=>rhs;simp only [aAt]);rw [e];exact rT [.c [] (nS a1),.c [] (show Con Tryz.prog 93 [] [] (.a [(iv 0),(iv 0),(iv 0),(iv 1),(iv 0),(iv 2),(iv 1),(iv 1),(iv 1),(iv 2),(iv 2),(iv 2)]) [] from C93),.u 200,.T,.i 0 6,.i 0 2,.i 0 3,.i 0 6,.i 1 2,.i 0 3,.i 0 2,.i 1 2,.F,.u 0,.T,.i 1 6,.i 0 2,.i 0 3,.i 1 6,.i 1 2,.i 1 3,.i 0 2,.i 1 2,.T,.u 0,.T,.i 2 6,.i 0 2,.i 0 3,.i 2 6,.i 1 2,.i 2 3,.i 0 2,.i 1 2,.T,.u 0,.T,.i 3 6,.i 0 2,.i 1 3,.i 3 6,.i 1 2,.i 1 3,.i 0 2,.i 1 2,.F,.u 0,.T,.i 4 6,.i 0 2,.i 1 3,.i 4 6,.i 1 2,.i 2 3,.i 0 2,.i 1 2,.T,.u 0,.T,.i 5 6,.i 0 2,.i 2 3,.i 5 6,.i 1 2,.i 2 3,.i 0 2,.i 1 2,.F,.u 0,.F] hcx
def F97 (a0:qJ)(a1:Zt)(a2:Int):Zs×Int := (bif ((a2:Int) == 0)then(bif (((qK (dB a1 a1) 1).2:Int) != 0)then((0,0),(qK (dB a1 a1) 1).2)else((wL (qK (dB a1 a1) 1).1 a0.1).1,(wL (qK (dB a1 a1) 1).1 a0.1).2))else(bif ((a2:Int) == 1)then((uS (dB a0.2.2.1 a1) (W (3*(dB a1 a1))) (dB a1 a1)).1,(uS (dB a0.2.2.1 a1) (W (3*(dB a1 a1))) (dB a1 a1)).2)else((uS (W ((W (3*(aAt a0 a1))) - (W ((dB a1 a1)*(aAr a0))))) (W ((W (24*(dB a1 a1)))*(dB a1 a1))) (dB a1 a1)).1,(uS (W ((W (3*(aAt a0 a1))) - (W ((dB a1 a1)*(aAr a0))))) (W ((W (24*(dB a1 a1)))*(dB a1 a1))) (dB a1 a1)).2)))
theorem C97 (a0:qJ)(a1:Zt)(a2:Int)(hu:UOK a1):Con Tryz.prog 97 [(.a (kS1 a0)),(.a (k3 a1)),(iv a2)] [] (.t [(.a (k2 (F97 a0 a1 a2).1)),(iv (F97 a0 a1 a2).2)]) []:=by
 refine cS Tryz.func97 fun cx hcx=>?_
 let t0:SL:=[.c [] (aOx a1 a1)];cases h0:((a2:Int) == 0)
 case true=>
  have q0:=eq_of_beq h0;let t1:SL:=t0++[.d h0,.c [] (C79 (dB a1 a1) 1)];cases h1:(((qK (dB a1 a1) 1).2:Int) != 0)
  case true=>have q1:=bne_iff_ne.1 h1;have e:=Eq.refl (F97 a0 a1 a2);(conv at e=>rhs;simp only [F97,h0,h1,aQ]);rw [e];exact rT (t1++[.d h1]) hcx
  have q1:=bne_eq_false_iff_eq.1 h1;have e:=Eq.refl (F97 a0 a1 a2);(conv at e=>rhs;simp only [F97,h0,h1,aQ]);rw [e];exact rT (t1++[.d h1,.c [] (C43 (qK (dB a1 a1) 1).1 a0.1)]) hcx
 have q0:=ne_of_beq_false h0;let t1:SL:=t0++[.d h0];cases h1:((a2:Int) == 1)
 case true=>have q1:=eq_of_beq h1;have e:=Eq.refl (F97 a0 a1 a2);(conv at e=>rhs;simp only [F97,h0,h1,aQ]);rw [e];exact rT (t1++[.d h1,.c [] (aOx a0.2.2.1 a1),.c [] (bAv (dB a0.2.2.1 a1) (W (3*(dB a1 a1))) (dB a1 a1)  (by first | exact bAt hu | exact bAu hu))]) hcx
 have q1:=ne_of_beq_false h1;have e:=Eq.refl (F97 a0 a1 a2);(conv at e=>rhs;simp only [F97,h0,h1,aQ]);rw [e];exact rT (t1++[.d h1,.c [] (bDi a0 a1),.c [] (bDa a0),.c [] (bAv (W ((W (3*(aAt a0 a1))) - (W ((dB a1 a1)*(aAr a0))))) (W ((W (24*(dB a1 a1)))*(dB a1 a1))) (dB a1 a1)  (by first | exact bAt hu | exact bAu hu))]) hcx
noncomputable def aJp:=bC [1,1,0] [] (aX Tryz.f99) []
def aGz (a0:Int)(v2 v3:Int):LS:=⟨jT 22 [(0,(iv a0)),(3,(iv v2)),(4,(iv v3))],[]⟩
def nJ (a0:Int):Zs->Zs⊕(Int) | (v2,v3) => (bif (decide (((W (v3 - v2)):Int) > 1))then(bif (decide (((W ((W (tD (W (v2+v3)) 2))*(W (tD (W (v2+v3)) 2)))):Int)<=a0))then(.inl ((W (tD (W (v2+v3)) 2)),v3))else(.inl (v2,(W (tD (W (v2+v3)) 2)))))else(.inr v2))
theorem bAw (a0:Int) {cx:Cx} (hcx:cx.base=0):∀(n:Nat) (v2 v3:Int),(0<=v2)/\(v2 < v3)/\(v3<=2147483648)->tN (v3 - v2) < n->gG Tryz.f99 cx (iv (aE (nJ a0) n (v2,v3))) [] [] (.l aJp.1 n::aJp.2) (aGz a0 v2 v3):=by
 intro n
 induction n with|zero=>intro v2 v3 hi hn;exact absurd hn (fW _)|succ n ih=>?_
 intro v2 v3 hi hn;refine aS ?_;have hmd:=aF4 (a:=v2) (b:=v3) ⟨by omega,by omega,by omega⟩;have hw1:=aG (n:=v3 - v2) (by omega) (by omega);cases h0:(decide (((W (v3 - v2)):Int) > 1))
 case true=>
  have q0:=dE h0;let t1:SL:=[.d h0,.p (show(2:Int)≠0 from by decide)];cases h1:(decide (((W ((W (tD (W (v2+v3)) 2))*(W (tD (W (v2+v3)) 2)))):Int)<=a0))
  case true=>have q1:=dE h1;have e:=Eq.refl (nJ a0 (v2,v3));(conv at e=>rhs;simp only [nJ,h0,h1,aQ]);rw [aD e];refine bA n (t1++[.d h1]) [0,3,4] [] hcx aJp (aGz a0 (W (tD (W (v2+v3)) 2)) v3) ?_;exact ih _ _ (by refine⟨?_,?_,?_⟩<;>(try simp only [Ls])<;>first | omega | assumption | simp) (by omega)
  have q1:=dO h1;have e:=Eq.refl (nJ a0 (v2,v3));(conv at e=>rhs;simp only [nJ,h0,h1,aQ]);rw [aD e];refine bA n (t1++[.d h1]) [0,3,4] [] hcx aJp (aGz a0 v2 (W (tD (W (v2+v3)) 2))) ?_;exact ih _ _ (by refine⟨?_,?_,?_⟩<;>(try simp only [Ls])<;>first | omega | assumption | simp) (by omega)
 have q0:=dO h0;have e:=Eq.refl (nJ a0 (v2,v3));(conv at e=>rhs;simp only [nJ,h0,aQ]);rw [aJ,e];exact rT [.d h0] hcx
def pJ (a0:Int):Int := (aE (nJ a0) (tN (2147483648 - 0)+1) (0,2147483648))
theorem C99 (a0:Int):Con Tryz.prog 99 [(iv a0)] [] (iv (pJ a0)) []:=by
 refine cS Tryz.func99 fun cx hcx=>?_
 have e:=Eq.refl (pJ a0);(conv at e=>rhs;simp only [pJ]);rw [e];refine eN [] [0,3,4] [] hcx aJp (aGz a0 0 2147483648) (tN (2147483648 - 0)+1) ?_;exact bAw a0 hcx (tN (2147483648 - 0)+1) 0 2147483648 (by refine⟨?_,?_,?_⟩<;>(try simp only [Ls])<;>first | omega | assumption | simp) (by omega)
def lT (a0 a1:Int):Int := (W (tD (W ((W (a0+a1)) - 1)) a1))
theorem aYb (a0 a1:Int)(hd:a1≠0):Con Tryz.prog 101 [(iv a0),(iv a1)] [] (iv (lT a0 a1)) []:=by
 refine cS Tryz.func101 fun cx hcx=>?_
 have e:=Eq.refl (lT a0 a1);(conv at e=>rhs;simp only [lT]);rw [e];exact rT [.p (show(a1:Int)≠0 from by first | omega | (rw [aG]<;>omega) | exact jF _)] hcx
def pB (a0:qJ×Zt)(a1:(Zt×Zt×Zt)×Int):qJ×Zt := (((W (a0.1.1+a1.2)),(W (a0.1.2.1+(if(a1.2:Int) < (W (0 - a1.2))then(W (0 - a1.2))else a1.2))),(bB a0.1.2.2.1 ((W ((W (0 - a1.2))*(W ((W ((bB a1.1.1 a0.2).1+(bB a1.1.2.1 a0.2).1))+(bB a1.1.2.2 a0.2).1)))),(W ((W (0 - a1.2))*(W ((W ((bB a1.1.1 a0.2).2.1+(bB a1.1.2.1 a0.2).2.1))+(bB a1.1.2.2 a0.2).2.1)))),(W ((W (0 - a1.2))*(W ((W ((bB a1.1.1 a0.2).2.2+(bB a1.1.2.1 a0.2).2.2))+(bB a1.1.2.2 a0.2).2.2)))))),((W (a0.1.2.2.2.1+(W (a1.2*(W ((W ((W ((W ((kA ((W ((W ((bB a1.1.1 a0.2).1+(bB a1.1.2.1 a0.2).1))+(bB a1.1.2.2 a0.2).1)),(W ((W ((bB a1.1.1 a0.2).2.1+(bB a1.1.2.1 a0.2).2.1))+(bB a1.1.2.2 a0.2).2.1)),(W ((W ((bB a1.1.1 a0.2).2.2+(bB a1.1.2.1 a0.2).2.2))+(bB a1.1.2.2 a0.2).2.2)))).1*(kA ((W ((W ((bB a1.1.1 a0.2).1+(bB a1.1.2.1 a0.2).1))+(bB a1.1.2.2 a0.2).1)),(W ((W ((bB a1.1.1 a0.2).2.1+(bB a1.1.2.1 a0.2).2.1))+(bB a1.1.2.2 a0.2).2.1)),(W ((W ((bB a1.1.1 a0.2).2.2+(bB a1.1.2.1 a0.2).2.2))+(bB a1.1.2.2 a0.2).2.2)))).1))+(W ((kA (bB a1.1.1 a0.2)).1*(kA (bB a1.1.1 a0.2)).1))))+(W ((kA (bB a1.1.2.1 a0.2)).1*(kA (bB a1.1.2.1 a0.2)).1))))+(W ((kA (bB a1.1.2.2 a0.2)).1*(kA (bB a1.1.2.2 a0.2)).1)))))))),(W (a0.1.2.2.2.2.1+(W (a1.2*(W ((W ((W ((W ((kA ((W ((W ((bB a1.1.1 a0.2).1+(bB a1.1.2.1 a0.2).1))+(bB a1.1.2.2 a0.2).1)),(W ((W ((bB a1.1.1 a0.2).2.1+(bB a1.1.2.1 a0.2).2.1))+(bB a1.1.2.2 a0.2).2.1)),(W ((W ((bB a1.1.1 a0.2).2.2+(bB a1.1.2.1 a0.2).2.2))+(bB a1.1.2.2 a0.2).2.2)))).1*(kA ((W ((W ((bB a1.1.1 a0.2).1+(bB a1.1.2.1 a0.2).1))+(bB a1.1.2.2 a0.2).1)),(W ((W ((bB a1.1.1 a0.2).2.1+(bB a1.1.2.1 a0.2).2.1))+(bB a1.1.2.2 a0.2).2.1)),(W ((W ((bB a1.1.1 a0.2).2.2+(bB a1.1.2.1 a0.2).2.2))+(bB a1.1.2.2 a0.2).2.2)))).2.1))+(W ((kA (bB a1.1.1 a0.2)).1*(kA (bB a1.1.1 a0.2)).2.1))))+(W ((kA (bB a1.1.2.1 a0.2)).1*(kA (bB a1.1.2.1 a0.2)).2.1))))+(W ((kA (bB a1.1.2.2 a0.2)).1*(kA (bB a1.1.2.2 a0.2)).2.1)))))))),(W (a0.1.2.2.2.2.2.1+(W (a1.2*(W ((W ((W ((W ((kA ((W ((W ((bB a1.1.1 a0.2).1+(bB a1.1.2.1 a0.2).1))+(bB a1.1.2.2 a0.2).1)),(W ((W ((bB a1.1.1 a0.2).2.1+(bB a1.1.2.1 a0.2).2.1))+(bB a1.1.2.2 a0.2).2.1)),(W ((W ((bB a1.1.1 a0.2).2.2+(bB a1.1.2.1 a0.2).2.2))+(bB a1.1.2.2 a0.2).2.2)))).1*(kA ((W ((W ((bB a1.1.1 a0.2).1+(bB a1.1.2.1 a0.2).1))+(bB a1.1.2.2 a0.2).1)),(W ((W ((bB a1.1.1 a0.2).2.1+(bB a1.1.2.1 a0.2).2.1))+(bB a1.1.2.2 a0.2).2.1)),(W ((W ((bB a1.1.1 a0.2).2.2+(bB a1.1.2.1 a0.2).2.2))+(bB a1.1.2.2 a0.2).2.2)))).2.2))+(W ((kA (bB a1.1.1 a0.2)).1*(kA (bB a1.1.1 a0.2)).2.2))))+(W ((kA (bB a1.1.2.1 a0.2)).1*(kA (bB a1.1.2.1 a0.2)).2.2))))+(W ((kA (bB a1.1.2.2 a0.2)).1*(kA (bB a1.1.2.2 a0.2)).2.2)))))))),(W (a0.1.2.2.2.2.2.2.1+(W (a1.2*(W ((W ((W ((W ((kA ((W ((W ((bB a1.1.1 a0.2).1+(bB a1.1.2.1 a0.2).1))+(bB a1.1.2.2 a0.2).1)),(W ((W ((bB a1.1.1 a0.2).2.1+(bB a1.1.2.1 a0.2).2.1))+(bB a1.1.2.2 a0.2).2.1)),(W ((W ((bB a1.1.1 a0.2).2.2+(bB a1.1.2.1 a0.2).2.2))+(bB a1.1.2.2 a0.2).2.2)))).2.1*(kA ((W ((W ((bB a1.1.1 a0.2).1+(bB a1.1.2.1 a0.2).1))+(bB a1.1.2.2 a0.2).1)),(W ((W ((bB a1.1.1 a0.2).2.1+(bB a1.1.2.1 a0.2).2.1))+(bB a1.1.2.2 a0.2).2.1)),(W ((W ((bB a1.1.1 a0.2).2.2+(bB a1.1.2.1 a0.2).2.2))+(bB a1.1.2.2 a0.2).2.2)))).2.1))+(W ((kA (bB a1.1.1 a0.2)).2.1*(kA (bB a1.1.1 a0.2)).2.1))))+(W ((kA (bB a1.1.2.1 a0.2)).2.1*(kA (bB a1.1.2.1 a0.2)).2.1))))+(W ((kA (bB a1.1.2.2 a0.2)).2.1*(kA (bB a1.1.2.2 a0.2)).2.1)))))))),(W (a0.1.2.2.2.2.2.2.2.1+(W (a1.2*(W ((W ((W ((W ((kA ((W ((W ((bB a1.1.1 a0.2).1+(bB a1.1.2.1 a0.2).1))+(bB a1.1.2.2 a0.2).1)),(W ((W ((bB a1.1.1 a0.2).2.1+(bB a1.1.2.1 a0.2).2.1))+(bB a1.1.2.2 a0.2).2.1)),(W ((W ((bB a1.1.1 a0.2).2.2+(bB a1.1.2.1 a0.2).2.2))+(bB a1.1.2.2 a0.2).2.2)))).2.1*(kA ((W ((W ((bB a1.1.1 a0.2).1+(bB a1.1.2.1 a0.2).1))+(bB a1.1.2.2 a0.2).1)),(W ((W ((bB a1.1.1 a0.2).2.1+(bB a1.1.2.1 a0.2).2.1))+(bB a1.1.2.2 a0.2).2.1)),(W ((W ((bB a1.1.1 a0.2).2.2+(bB a1.1.2.1 a0.2).2.2))+(bB a1.1.2.2 a0.2).2.2)))).2.2))+(W ((kA (bB a1.1.1 a0.2)).2.1*(kA (bB a1.1.1 a0.2)).2.2))))+(W ((kA (bB a1.1.2.1 a0.2)).2.1*(kA (bB a1.1.2.1 a0.2)).2.2))))+(W ((kA (bB a1.1.2.2 a0.2)).2.1*(kA (bB a1.1.2.2 a0.2)).2.2)))))))),(W (a0.1.2.2.2.2.2.2.2.2+(W (a1.2*(W ((W ((W ((W ((kA ((W ((W ((bB a1.1.1 a0.2).1+(bB a1.1.2.1 a0.2).1))+(bB a1.1.2.2 a0.2).1)),(W ((W ((bB a1.1.1 a0.2).2.1+(bB a1.1.2.1 a0.2).2.1))+(bB a1.1.2.2 a0.2).2.1)),(W ((W ((bB a1.1.1 a0.2).2.2+(bB a1.1.2.1 a0.2).2.2))+(bB a1.1.2.2 a0.2).2.2)))).2.2*(kA ((W ((W ((bB a1.1.1 a0.2).1+(bB a1.1.2.1 a0.2).1))+(bB a1.1.2.2 a0.2).1)),(W ((W ((bB a1.1.1 a0.2).2.1+(bB a1.1.2.1 a0.2).2.1))+(bB a1.1.2.2 a0.2).2.1)),(W ((W ((bB a1.1.1 a0.2).2.2+(bB a1.1.2.1 a0.2).2.2))+(bB a1.1.2.2 a0.2).2.2)))).2.2))+(W ((kA (bB a1.1.1 a0.2)).2.2*(kA (bB a1.1.1 a0.2)).2.2))))+(W ((kA (bB a1.1.2.1 a0.2)).2.2*(kA (bB a1.1.2.1 a0.2)).2.2))))+(W ((kA (bB a1.1.2.2 a0.2)).2.2*(kA (bB a1.1.2.2 a0.2)).2.2)))))))))),a0.2)
theorem C52 (a0:qJ×Zt)(a1:(Zt×Zt×Zt)×Int):Con Tryz.prog 52 [(.p 0 0),(.a (kS0 a1))] [(.live true false [(iv a0.1.1),(iv a0.1.2.1),(iv a0.1.2.2.1.1),(iv a0.1.2.2.1.2.1),(iv a0.1.2.2.1.2.2),(iv a0.1.2.2.2.1),(iv a0.1.2.2.2.2.1),(iv a0.1.2.2.2.2.2.1),(iv a0.1.2.2.2.2.2.2.1),(iv a0.1.2.2.2.2.2.2.2.1),(iv a0.1.2.2.2.2.2.2.2.2),(iv a0.2.1),(iv a0.2.2.1),(iv a0.2.2.2)])] (.t []) [] [(.live true false [(iv (pB a0 a1).1.1),(iv (pB a0 a1).1.2.1),(iv (pB a0 a1).1.2.2.1.1),(iv (pB a0 a1).1.2.2.1.2.1),(iv (pB a0 a1).1.2.2.1.2.2),(iv (pB a0 a1).1.2.2.2.1),(iv (pB a0 a1).1.2.2.2.2.1),(iv (pB a0 a1).1.2.2.2.2.2.1),(iv (pB a0 a1).1.2.2.2.2.2.2.1),(iv (pB a0 a1).1.2.2.2.2.2.2.2.1),(iv (pB a0 a1).1.2.2.2.2.2.2.2.2),(iv (pB a0 a1).2.1),(iv (pB a0 a1).2.2.1),(iv (pB a0 a1).2.2.2)])]:=by
 refine cS Tryz.func52 fun cx hcx=>?_
 have e:=Eq.refl (pB a0 a1);(conv at e=>rhs;simp only [pB]);rw [e]
 try dsimp only [bZ]
 try dsimp only
 exact rtn [.c [] (C92 a1.1.1 a0.2),.c [] (C92 a1.1.2.1 a0.2),.c [] (C92 a1.1.2.2 a0.2),.i 0 3,.i 1 3,.i 2 3,.i 0 3,.i 1 3,.i 2 3,.i 0 3,.i 1 3,.i 2 3,.c [] (C92 a0.1.2.2.1 ((W ((W (0 - a1.2))*(W ((W ((bB a1.1.1 a0.2).1+(bB a1.1.2.1 a0.2).1))+(bB a1.1.2.2 a0.2).1)))),(W ((W (0 - a1.2))*(W ((W ((bB a1.1.1 a0.2).2.1+(bB a1.1.2.1 a0.2).2.1))+(bB a1.1.2.2 a0.2).2.1)))),(W ((W (0 - a1.2))*(W ((W ((bB a1.1.1 a0.2).2.2+(bB a1.1.2.1 a0.2).2.2))+(bB a1.1.2.2 a0.2).2.2)))))),.c [] (show Con Tryz.prog 93 [] [] (.a [(iv 0),(iv 0),(iv 0),(iv 1),(iv 0),(iv 2),(iv 1),(iv 1),(iv 1),(iv 2),(iv 2),(iv 2)]) [] from C93),.u 200,.T,.i 0 6,.c [] (nS ((W ((W ((bB a1.1.1 a0.2).1+(bB a1.1.2.1 a0.2).1))+(bB a1.1.2.2 a0.2).1)),(W ((W ((bB a1.1.1 a0.2).2.1+(bB a1.1.2.1 a0.2).2.1))+(bB a1.1.2.2 a0.2).2.1)),(W ((W ((bB a1.1.1 a0.2).2.2+(bB a1.1.2.1 a0.2).2.2))+(bB a1.1.2.2 a0.2).2.2)))),.i 0 2,.i 0 3,.c [] (nS ((W ((W ((bB a1.1.1 a0.2).1+(bB a1.1.2.1 a0.2).1))+(bB a1.1.2.2 a0.2).1)),(W ((W ((bB a1.1.1 a0.2).2.1+(bB a1.1.2.1 a0.2).2.1))+(bB a1.1.2.2 a0.2).2.1)),(W ((W ((bB a1.1.1 a0.2).2.2+(bB a1.1.2.1 a0.2).2.2))+(bB a1.1.2.2 a0.2).2.2)))),.i 1 2,.i 0 3,.u 200,.T,.i 0 3,.c [] (nS (bB a1.1.1 a0.2)),.i 0 2,.i 0 3,.c [] (nS (bB a1.1.1 a0.2)),.i 1 2,.i 0 3,.u 0,.T,.i 1 3,.c [] (nS (bB a1.1.2.1 a0.2)),.i 0 2,.i 0 3,.c [] (nS (bB a1.1.2.1 a0.2)),.i 1 2,.i 0 3,.u 0,.T,.i 2 3,.c [] (nS (bB a1.1.2.2 a0.2)),.i 0 2,.i 0 3,.c [] (nS (bB a1.1.2.2 a0.2)),.i 1 2,.i 0 3,.u 0,.F,.i 0 6,.i 0 6,.u 0,.T,.i 1 6,.c [] (nS ((W ((W ((bB a1.1.1 a0.2).1+(bB a1.1.2.1 a0.2).1))+(bB a1.1.2.2 a0.2).1)),(W ((W ((bB a1.1.1 a0.2).2.1+(bB a1.1.2.1 a0.2).2.1))+(bB a1.1.2.2 a0.2).2.1)),(W ((W ((bB a1.1.1 a0.2).2.2+(bB a1.1.2.1 a0.2).2.2))+(bB a1.1.2.2 a0.2).2.2)))),.i 0 2,.i 0 3,.c [] (nS ((W ((W ((bB a1.1.1 a0.2).1+(bB a1.1.2.1 a0.2).1))+(bB a1.1.2.2 a0.2).1)),(W ((W ((bB a1.1.1 a0.2).2.1+(bB a1.1.2.1 a0.2).2.1))+(bB a1.1.2.2 a0.2).2.1)),(W ((W ((bB a1.1.1 a0.2).2.2+(bB a1.1.2.1 a0.2).2.2))+(bB a1.1.2.2 a0.2).2.2)))),.i 1 2,.i 1 3,.u 200,.T,.i 0 3,.c [] (nS (bB a1.1.1 a0.2)),.i 0 2,.i 0 3,.c [] (nS (bB a1.1.1 a0.2)),.i 1 2,.i 1 3,.u 0,.T,.i 1 3,.c [] (nS (bB a1.1.2.1 a0.2)),.i 0 2,.i 0 3,.c [] (nS (bB a1.1.2.1 a0.2)),.i 1 2,.i 1 3,.u 0,.T,.i 2 3,.c [] (nS (bB a1.1.2.2 a0.2)),.i 0 2,.i 0 3,.c [] (nS (bB a1.1.2.2 a0.2)),.i 1 2,.i 1 3,.u 0,.F,.i 1 6,.i 1 6,.u 0,.T,.i 2 6,.c [] (nS ((W ((W ((bB a1.1.1 a0.2).1+(bB a1.1.2.1 a0.2).1))+(bB a1.1.2.2 a0.2).1)),(W ((W ((bB a1.1.1 a0.2).2.1+(bB a1.1.2.1 a0.2).2.1))+(bB a1.1.2.2 a0.2).2.1)),(W ((W ((bB a1.1.1 a0.2).2.2+(bB a1.1.2.1 a0.2).2.2))+(bB a1.1.2.2 a0.2).2.2)))),.i 0 2,.i 0 3,.c [] (nS ((W ((W ((bB a1.1.1 a0.2).1+(bB a1.1.2.1 a0.2).1))+(bB a1.1.2.2 a0.2).1)),(W ((W ((bB a1.1.1 a0.2).2.1+(bB a1.1.2.1 a0.2).2.1))+(bB a1.1.2.2 a0.2).2.1)),(W ((W ((bB a1.1.1 a0.2).2.2+(bB a1.1.2.1 a0.2).2.2))+(bB a1.1.2.2 a0.2).2.2)))),.i 1 2,.i 2 3,.u 200,.T,.i 0 3,.c [] (nS (bB a1.1.1 a0.2)),.i 0 2,.i 0 3,.c [] (nS (bB a1.1.1 a0.2)),.i 1 2,.i 2 3,.u 0,.T,.i 1 3,.c [] (nS (bB a1.1.2.1 a0.2)),.i 0 2,.i 0 3,.c [] (nS (bB a1.1.2.1 a0.2)),.i 1 2,.i 2 3,.u 0,.T,.i 2 3,.c [] (nS (bB a1.1.2.2 a0.2)),.i 0 2,.i 0 3,.c [] (nS (bB a1.1.2.2 a0.2)),.i 1 2,.i 2 3,.u 0,.F,.i 2 6,.i 2 6,.u 0,.T,.i 3 6,.c [] (nS ((W ((W ((bB a1.1.1 a0.2).1+(bB a1.1.2.1 a0.2).1))+(bB a1.1.2.2 a0.2).1)),(W ((W ((bB a1.1.1 a0.2).2.1+(bB a1.1.2.1 a0.2).2.1))+(bB a1.1.2.2 a0.2).2.1)),(W ((W ((bB a1.1.1 a0.2).2.2+(bB a1.1.2.1 a0.2).2.2))+(bB a1.1.2.2 a0.2).2.2)))),.i 0 2,.i 1 3,.c [] (nS ((W ((W ((bB a1.1.1 a0.2).1+(bB a1.1.2.1 a0.2).1))+(bB a1.1.2.2 a0.2).1)),(W ((W ((bB a1.1.1 a0.2).2.1+(bB a1.1.2.1 a0.2).2.1))+(bB a1.1.2.2 a0.2).2.1)),(W ((W ((bB a1.1.1 a0.2).2.2+(bB a1.1.2.1 a0.2).2.2))+(bB a1.1.2.2 a0.2).2.2)))),.i 1 2,.i 1 3,.u 200,.T,.i 0 3,.c [] (nS (bB a1.1.1 a0.2)),.i 0 2,.i 1 3,.c [] (nS (bB a1.1.1 a0.2)),.i 1 2,.i 1 3,.u 0,.T,.i 1 3,.c [] (nS (bB a1.1.2.1 a0.2)),.i 0 2,.i 1 3,.c [] (nS (bB a1.1.2.1 a0.2)),.i 1 2,.i 1 3,.u 0,.T,.i 2 3,.c [] (nS (bB a1.1.2.2 a0.2)),.i 0 2,.i 1 3,.c [] (nS (bB a1.1.2.2 a0.2)),.i 1 2,.i 1 3,.u 0,.F,.i 3 6,.i 3 6,.u 0,.T,.i 4 6,.c [] (nS ((W ((W ((bB a1.1.1 a0.2).1+(bB a1.1.2.1 a0.2).1))+(bB a1.1.2.2 a0.2).1)),(W ((W ((bB a1.1.1 a0.2).2.1+(bB a1.1.2.1 a0.2).2.1))+(bB a1.1.2.2 a0.2).2.1)),(W ((W ((bB a1.1.1 a0.2).2.2+(bB a1.1.2.1 a0.2).2.2))+(bB a1.1.2.2 a0.2).2.2)))),.i 0 2,.i 1 3,.c [] (nS ((W ((W ((bB a1.1.1 a0.2).1+(bB a1.1.2.1 a0.2).1))+(bB a1.1.2.2 a0.2).1)),(W ((W ((bB a1.1.1 a0.2).2.1+(bB a1.1.2.1 a0.2).2.1))+(bB a1.1.2.2 a0.2).2.1)),(W ((W ((bB a1.1.1 a0.2).2.2+(bB a1.1.2.1 a0.2).2.2))+(bB a1.1.2.2 a0.2).2.2)))),.i 1 2,.i 2 3,.u 200,.T,.i 0 3,.c [] (nS (bB a1.1.1 a0.2)),.i 0 2,.i 1 3,.c [] (nS (bB a1.1.1 a0.2)),.i 1 2,.i 2 3,.u 0,.T,.i 1 3,.c [] (nS (bB a1.1.2.1 a0.2)),.i 0 2,.i 1 3,.c [] (nS (bB a1.1.2.1 a0.2)),.i 1 2,.i 2 3,.u 0,.T,.i 2 3,.c [] (nS (bB a1.1.2.2 a0.2)),.i 0 2,.i 1 3,.c [] (nS (bB a1.1.2.2 a0.2)),.i 1 2,.i 2 3,.u 0,.F,.i 4 6,.i 4 6,.u 0,.T,.i 5 6,.c [] (nS ((W ((W ((bB a1.1.1 a0.2).1+(bB a1.1.2.1 a0.2).1))+(bB a1.1.2.2 a0.2).1)),(W ((W ((bB a1.1.1 a0.2).2.1+(bB a1.1.2.1 a0.2).2.1))+(bB a1.1.2.2 a0.2).2.1)),(W ((W ((bB a1.1.1 a0.2).2.2+(bB a1.1.2.1 a0.2).2.2))+(bB a1.1.2.2 a0.2).2.2)))),.i 0 2,.i 2 3,.c [] (nS ((W ((W ((bB a1.1.1 a0.2).1+(bB a1.1.2.1 a0.2).1))+(bB a1.1.2.2 a0.2).1)),(W ((W ((bB a1.1.1 a0.2).2.1+(bB a1.1.2.1 a0.2).2.1))+(bB a1.1.2.2 a0.2).2.1)),(W ((W ((bB a1.1.1 a0.2).2.2+(bB a1.1.2.1 a0.2).2.2))+(bB a1.1.2.2 a0.2).2.2)))),.i 1 2,.i 2 3,.u 200,.T,.i 0 3,.c [] (nS (bB a1.1.1 a0.2)),.i 0 2,.i 2 3,.c [] (nS (bB a1.1.1 a0.2)),.i 1 2,.i 2 3,.u 0,.T,.i 1 3,.c [] (nS (bB a1.1.2.1 a0.2)),.i 0 2,.i 2 3,.c [] (nS (bB a1.1.2.1 a0.2)),.i 1 2,.i 2 3,.u 0,.T,.i 2 3,.c [] (nS (bB a1.1.2.2 a0.2)),.i 0 2,.i 2 3,.c [] (nS (bB a1.1.2.2 a0.2)),.i 1 2,.i 2 3,.u 0,.F,.i 5 6,.i 5 6,.u 0,.F] [] [0] [] hcx (by kernel_rfl)
end Go.Proofs.YtlffahoikfahlaaGreat
namespace Go.Proofs.YtlffahoikfahlaaGreat
open Go.Proofs Go.Aw Go.RowKit
set_option maxRecDepth 100000
theorem aNn {n:Int} (h0:0<=n)(h1:n < 4611686018427387904):0<=pJ n/\pJ n < 2147483648/\pJ n*pJ n<=n/\n < (pJ n+1)*(pJ n+1):=by
 unfold pJ;refine jQ (S:=nJ n) (fun v:Zs=>tN (v.2 - v.1)) (fun v:Zs=>0<=v.1/\v.1 < v.2/\v.2<=2147483648/\v.1*v.1<=n/\n < v.2*v.2) (fun r:Int=>0<=r/\r < 2147483648/\r*r<=n/\n < (r+1)*(r+1)) (fun v hv=>?_) _ (0,2147483648) ⟨by decide,by decide,by decide,h0,by simpa using h1⟩ (lss _);obtain⟨a,b⟩:=v;obtain⟨g0,g1,g2,g3,g4⟩:=hv;dsimp only at g0 g1 g2 g3 g4;have hm:=aF4 (a:=a) (b:=b) ⟨g0,by omega,g2⟩;have hw:=aG (n:=b - a) (by omega) (by omega);have hsq:=dN (a:=2147483648) (b:=2147483648) (x:=(a+b) / 2) (y:=(a+b) / 2) (by omega) (by omega);have hsn:0<=(a+b) / 2*((a+b) / 2):=Int.mul_nonneg (by omega) (by omega);cases h:(decide (((W (b - a)):Int) > 1))
 case true=>
  have hgt:=dE h;rw [hw] at hgt;cases h2:(decide (((W ((W (tD (W (a+b)) 2))*(W (tD (W (a+b)) 2)))):Int)<=n))
  case true=>rw [hm] at h2;have hle:=dE h2;rw [aG (by omega) (by omega)] at hle;exact .inl ⟨((a+b) / 2,b),by simp only [nJ,h,hm,h2,cond_true],⟨by show 0<=(a+b) / 2;omega,by show(a+b) / 2 < b;omega,g2,hle,g4⟩,by show tN (b - (a+b) / 2) < tN (b - a);omega⟩
  rw [hm] at h2;have hle:=dO h2;rw [aG (by omega) (by omega)] at hle;exact .inl ⟨(a,(a+b) / 2),by simp only [nJ,h,hm,h2,aQ],⟨g0,by show a < (a+b) / 2;omega,by show(a+b) / 2<=2147483648;omega,g3,by show n < (a+b) / 2*((a+b) / 2);omega⟩,by show tN ((a+b) / 2 - a) < tN (b - a);omega⟩
 have hgt:=dO h;rw [hw] at hgt;have e:b=a+1:=by omega
 subst e;exact .inr ⟨a,by simp only [nJ,h,cond_false],g0,by omega,g3,g4⟩
theorem aNo (n:Int):0<=pJ n/\pJ n < 2147483648:=by
 unfold pJ;refine jQ (S:=nJ n) (fun v:Zs=>tN (v.2 - v.1)) (fun v:Zs=>0<=v.1/\v.1 < v.2/\v.2<=2147483648) (fun r:Int=>0<=r/\r < 2147483648) (fun v hv=>?_) _ (0,2147483648) ⟨by decide,by decide,by decide⟩ (lss _);obtain⟨a,b⟩:=v;obtain⟨g0,g1,g2⟩:=hv;dsimp only at g0 g1 g2;have hm:=aF4 (a:=a) (b:=b) ⟨g0,by omega,g2⟩;have hw:=aG (n:=b - a) (by omega) (by omega);cases h:(decide (((W (b - a)):Int) > 1))
 case true=>
  have hgt:=dE h;rw [hw] at hgt;cases h2:(decide (((W ((W (tD (W (a+b)) 2))*(W (tD (W (a+b)) 2)))):Int)<=n))
  case true=>rw [hm] at h2;exact .inl ⟨((a+b) / 2,b),by simp only [nJ,h,hm,h2,cond_true],⟨by show 0<=(a+b) / 2;omega,by show(a+b) / 2 < b;omega,g2⟩,by show tN (b - (a+b) / 2) < tN (b - a);omega⟩
  rw [hm] at h2;exact .inl ⟨(a,(a+b) / 2),by simp only [nJ,h,hm,h2,aQ],⟨g0,by show a < (a+b) / 2;omega,by show(a+b) / 2<=2147483648;omega⟩,by show tN ((a+b) / 2 - a) < tN (b - a);omega⟩
 have hgt:=dO h;exact .inr ⟨a,by simp only [nJ,h,cond_false],g0,by omega⟩
def gE (a0:Int)(a1:qJ)(a2:Zt)(a3:List Zs)(a4:Int):(List Zs)×Int := (bif ((a4:Int) == 0)then((a3++[(F97 a1 a2 a0).1]),(F97 a1 a2 a0).2)else((a3++[(F97 a1 a2 a0).1]),a4))
theorem C96 (a0:Int)(a1:qJ)(a2:Zt)(a3:List Zs)(a4:Int)(l3:a3.length<=2^63-1)(hu:UOK a2)(hl:a3.length<=1000):Con Tryz.prog 96 [(iv a0),(.p 0 0),(.p 1 0),(.p 2 0),(.p 4 0)] [(.live false false (kS1 a1)),(.live false false (k3 a2)),(.live true false [(.s 3 0 a3.length 2)]),(.live true true (flat sN a3)),(.live true false [(iv a4)])] (.t []) [(.live true true (flat sN (gE a0 a1 a2 a3 a4).1))] [.un,.un,(.live true false [(.s 5 0 (gE a0 a1 a2 a3 a4).1.length 2)]),.dead,(.live true false [(iv (gE a0 a1 a2 a3 a4).2)])]:=by
 refine cS Tryz.func96 fun cx hcx=>?_
 let t0:SL:=[.c [] (C97 a1 a2 a0  hu),.p (show((flat sN a3).length=a3.length*2/\a3.length+1<=2 ^ 40/\(a3.length+1)*16<=2 ^ 47) from rS uH (by omega) (by omega))];cases h0:((a4:Int) == 0)
 case true=>
  have q0:=eq_of_beq h0;have e:=Eq.refl (gE a0 a1 a2 a3 a4);(conv at e=>rhs;simp only [gE,h0,aQ]);rw [e]
  try dsimp only [bZ]
  try dsimp only
  rw [show flat sN (a3++[(F97 a1 a2 a0).1])=(flat sN a3++(k2 (F97 a1 a2 a0).1)) from eJ]
  try rw [show List.length (α:=Zs) (a3++[(F97 a1 a2 a0).1])=(a3.length+1) from by first | simp;done | omega]
  exact rtn (t0++[.d h0]) [] [2,3,4] [7] hcx (by kernel_rfl)
 have q0:=ne_of_beq_false h0;have e:=Eq.refl (gE a0 a1 a2 a3 a4);(conv at e=>rhs;simp only [gE,h0,aQ]);rw [e]
 try dsimp only [bZ]
 try dsimp only
 rw [show flat sN (a3++[(F97 a1 a2 a0).1])=(flat sN a3++(k2 (F97 a1 a2 a0).1)) from eJ]
 try rw [show List.length (α:=Zs) (a3++[(F97 a1 a2 a0).1])=(a3.length+1) from by first | simp;done | omega]
 exact rtn (t0++[.d h0]) [] [2,3,4] [7] hcx (by kernel_rfl)
theorem sD (k:Int)(m:qJ)(u:Zt)(l:List Zs)(e:Int):(gE k m u l e).1.length=l.length+1:=by
 unfold gE;cases ((e:Int) == 0)<;>simp
noncomputable def xX:=dK [1,1,1,1,1,1,0,0] [] (aX Tryz.f53)
def xY (a0:qJ)(a1:Zt)(a2:Int)(v2c:List SV)(v2n:Nat)(v3:Int):LS:=⟨jT 40 [(6,(.p 0 0)),(9,(.p 1 0)),(10,(.p 2 0))],[(.live true false [(iv 0),(iv 0)]),(.live true false [(.s 3 0 v2n 2)]),(.live true false [(iv v3)]),(.live true true v2c)]⟩
def jB (a0:qJ)(a1:Zt)(a2:Int):(List Zs)×Int->Zs×Int | (v2,v3) => (bif ((v3:Int) != 0)then((0,0),v3)else((oK v2).1,(oK v2).2))
noncomputable def aG0:=dK [1,1,1,1,1,0,0] [] (aX Tryz.f53)
def aNp (a0:qJ)(a1:Zt)(a2:Int)(v1c:List SV)(v1n:Nat):LS:=⟨jT 40 [(2,(iv a2)),(6,(.p 0 0)),(9,(.p 1 0)),(10,(.p 2 0)),(11,(.f 96 [(.p 3 0),(.p 4 0),(.p 1 0),(.p 2 0)]))],[(.live true false [(iv 0),(iv 0)]),(.live true false [(.s 5 0 v1n 2)]),(.live true false [(iv 0)]),(.live true false (kS1 a0)),(.live true false (k3 a1)),(.live true true v1c)]⟩
def pC (a0:qJ)(a1:Zt)(a2:Int):List Zs->Zs×Int | v1 => (bif ((a2:Int) == 2)then(jB a0 a1 a2 ((gE 0 a0 a1 (gE 1 a0 a1 (gE 2 a0 a1 v1 0).1 (gE 2 a0 a1 v1 0).2).1 (gE 1 a0 a1 (gE 2 a0 a1 v1 0).1 (gE 2 a0 a1 v1 0).2).2).1,(gE 0 a0 a1 (gE 1 a0 a1 (gE 2 a0 a1 v1 0).1 (gE 2 a0 a1 v1 0).2).1 (gE 1 a0 a1 (gE 2 a0 a1 v1 0).1 (gE 2 a0 a1 v1 0).2).2).2))else(bif ((a2:Int) == 1)then(jB a0 a1 a2 ((gE 0 a0 a1 (gE 1 a0 a1 v1 0).1 (gE 1 a0 a1 v1 0).2).1,(gE 0 a0 a1 (gE 1 a0 a1 v1 0).1 (gE 1 a0 a1 v1 0).2).2))else(jB a0 a1 a2 ((gE 0 a0 a1 v1 0).1,(gE 0 a0 a1 v1 0).2))))
theorem aG1 (a0:qJ)(a1:Zt)(a2:Int) {cx:Cx} (hcx:cx.base=0)(v2:List Zs)(v3:Int):v2.length<=3->gG Tryz.f53 cx (.t [(.a (k2 (jB a0 a1 a2 (v2,v3)).1)),(iv (jB a0 a1 a2 (v2,v3)).2)]) [] [] (.c xX.1::xX.2) (xY a0 a1 a2 (flat sN v2) v2.length v3):=by
 intro hi;cases h0:((v3:Int) != 0)
 case true=>have q0:=bne_iff_ne.1 h0;have e:=Eq.refl (jB a0 a1 a2 (v2,v3));(conv at e=>rhs;simp only [jB,h0,aQ]);rw [e];exact rT [.d h0] hcx
 have q0:=bne_eq_false_iff_eq.1 h0;have e:=Eq.refl (jB a0 a1 a2 (v2,v3));(conv at e=>rhs;simp only [jB,h0,aQ]);rw [e];exact rT [.d h0,.c [3] (aP7 v2 (by omega))] hcx
theorem aYc (a0:qJ)(a1:Zt)(a2:Int) {cx:Cx} (hcx:cx.base=0)(v1:List Zs):(UOK a1)/\(v1.length=0)->gG Tryz.f53 cx (.t [(.a (k2 (pC a0 a1 a2 v1).1)),(iv (pC a0 a1 a2 v1).2)]) [] [] (.c aG0.1::aG0.2) (aNp a0 a1 a2 (flat sN v1) v1.length):=by
 intro hi;cases h0:((a2:Int) == 2)
 case true=>have q0:=eq_of_beq h0;have e:=Eq.refl (pC a0 a1 a2 v1);(conv at e=>rhs;simp only [pC,h0,aQ]);rw [e];refine gA [.d h0,.c [3,4,1,5,2] (C96 2 a0 a1 v1 0 (by omega) hi.1 (by omega)),.c [3,4,1,6,2] (C96 1 a0 a1 (gE 2 a0 a1 v1 0).1 (gE 2 a0 a1 v1 0).2 (by(try simp only [Lt,sD]);omega) hi.1 (by(try simp only [sD]);omega)),.c [3,4,1,7,2] (C96 0 a0 a1 (gE 1 a0 a1 (gE 2 a0 a1 v1 0).1 (gE 2 a0 a1 v1 0).2).1 (gE 1 a0 a1 (gE 2 a0 a1 v1 0).1 (gE 2 a0 a1 v1 0).2).2 (by(try simp only [Lt,sD]);omega) hi.1 (by(try simp only [sD]);omega)),.z 13] [6,9,10] [0,1,2,8] hcx xX (xY a0 a1 a2 (flat sN (gE 0 a0 a1 (gE 1 a0 a1 (gE 2 a0 a1 v1 0).1 (gE 2 a0 a1 v1 0).2).1 (gE 1 a0 a1 (gE 2 a0 a1 v1 0).1 (gE 2 a0 a1 v1 0).2).2).1) ((gE 0 a0 a1 (gE 1 a0 a1 (gE 2 a0 a1 v1 0).1 (gE 2 a0 a1 v1 0).2).1 (gE 1 a0 a1 (gE 2 a0 a1 v1 0).1 (gE 2 a0 a1 v1 0).2).2).1.length) ((gE 0 a0 a1 (gE 1 a0 a1 (gE 2 a0 a1 v1 0).1 (gE 2 a0 a1 v1 0).2).1 (gE 1 a0 a1 (gE 2 a0 a1 v1 0).1 (gE 2 a0 a1 v1 0).2).2).2)) ?_;exact aG1 a0 a1 a2 hcx ((gE 0 a0 a1 (gE 1 a0 a1 (gE 2 a0 a1 v1 0).1 (gE 2 a0 a1 v1 0).2).1 (gE 1 a0 a1 (gE 2 a0 a1 v1 0).1 (gE 2 a0 a1 v1 0).2).2).1) ((gE 0 a0 a1 (gE 1 a0 a1 (gE 2 a0 a1 v1 0).1 (gE 2 a0 a1 v1 0).2).1 (gE 1 a0 a1 (gE 2 a0 a1 v1 0).1 (gE 2 a0 a1 v1 0).2).2).2) (by(try simp only [sD]);omega)
 have q0:=ne_of_beq_false h0;let t1:SL:=[.d h0];cases h1:((a2:Int) == 1)
 case true=>have q1:=eq_of_beq h1;have e:=Eq.refl (pC a0 a1 a2 v1);(conv at e=>rhs;simp only [pC,h0,h1,aQ]);rw [e];refine gA (t1++[.d h1,.c [3,4,1,5,2] (C96 1 a0 a1 v1 0 (by omega) hi.1 (by omega)),.c [3,4,1,6,2] (C96 0 a0 a1 (gE 1 a0 a1 v1 0).1 (gE 1 a0 a1 v1 0).2 (by(try simp only [Lt,sD]);omega) hi.1 (by(try simp only [sD]);omega)),.z 13]) [6,9,10] [0,1,2,7] hcx xX (xY a0 a1 a2 (flat sN (gE 0 a0 a1 (gE 1 a0 a1 v1 0).1 (gE 1 a0 a1 v1 0).2).1) ((gE 0 a0 a1 (gE 1 a0 a1 v1 0).1 (gE 1 a0 a1 v1 0).2).1.length) ((gE 0 a0 a1 (gE 1 a0 a1 v1 0).1 (gE 1 a0 a1 v1 0).2).2)) ?_;exact aG1 a0 a1 a2 hcx ((gE 0 a0 a1 (gE 1 a0 a1 v1 0).1 (gE 1 a0 a1 v1 0).2).1) ((gE 0 a0 a1 (gE 1 a0 a1 v1 0).1 (gE 1 a0 a1 v1 0).2).2) (by(try simp only [sD]);omega)
 have q1:=ne_of_beq_false h1;have e:=Eq.refl (pC a0 a1 a2 v1);(conv at e=>rhs;simp only [pC,h0,h1,aQ]);rw [e];refine gA (t1++[.d h1,.c [3,4,1,5,2] (C96 0 a0 a1 v1 0 (by omega) hi.1 (by omega)),.z 13]) [6,9,10] [0,1,2,6] hcx xX (xY a0 a1 a2 (flat sN (gE 0 a0 a1 v1 0).1) ((gE 0 a0 a1 v1 0).1.length) ((gE 0 a0 a1 v1 0).2)) ?_;exact aG1 a0 a1 a2 hcx ((gE 0 a0 a1 v1 0).1) ((gE 0 a0 a1 v1 0).2) (by(try simp only [sD]);omega)
def F53 (a0:qJ)(a1:Zt)(a2:Int):Zs×Int := (bif (((F95 a0 a1 a2):Int) != 0)then((0,0),(F95 a0 a1 a2))else(pC a0 a1 a2 ([]:List Zs)))
theorem C53 (a0:qJ)(a1:Zt)(a2:Int):Con Tryz.prog 53 [(.a (kS1 a0)),(.a (k3 a1)),(iv a2)] [] (.t [(.a (k2 (F53 a0 a1 a2).1)),(iv (F53 a0 a1 a2).2)]) []:=by
 refine cS Tryz.func53 fun cx hcx=>?_
 let t0:SL:=[.c [] (C95 a0 a1 a2)];cases h0:(((F95 a0 a1 a2):Int) != 0)
 case true=>have q0:=bne_iff_ne.1 h0;have e:=Eq.refl (F53 a0 a1 a2);(conv at e=>rhs;simp only [F53,h0,aQ]);rw [e];exact rT (t0++[.d h0]) hcx
 have q0:=bne_eq_false_iff_eq.1 h0;have e:=Eq.refl (F53 a0 a1 a2);(conv at e=>rhs;simp only [F53,h0,aQ]);rw [e];refine ga (t0++[.d h0,.z 7]) [.cell 3 0 2] [2,6,9,10,11] [2,3,4,0,1,5] hcx aG0.1 aG0.2 (aNp a0 a1 a2 (flat sN ([]:List Zs)) 0) (by kernel_rfl) ?_;exact aYc a0 a1 a2 hcx ([]:List Zs) ⟨(aSa h0).2.1,rfl⟩
noncomputable def aNq:=bC [1,1,1,1,1,1,1,1,1,0,1] [] (aX Tryz.f54) []
def aLe (a0 a1:Int)(a2:Zt)(a3:Int)(v5 v6 v7 v8:Int):LS:=⟨jT 79 [(0,(iv a0)),(11,(iv v5)),(12,(iv (pJ (W ((W ((dB a2 a2)*1048576))*1048576))))),(13,(iv v6)),(14,(iv v7)),(60,(iv a3)),(61,(iv v8))],[]⟩
def sM (a0 a1:Int)(a2:Zt)(a3:Int):Int×Zt->(Int×Zt)⊕Zs | (v5,v6,v7,v8) => (bif (decide ((v8:Int) < a3))then(.inl (v5,v6,(lT (W (v7*v6)) 1048576),(v8+1)))else(bif (decide (((lT (W ((W (a0*v7))*1048576)) (W ((pJ (W ((W ((dB a2 a2)*1048576))*1048576))) - v5))):Int) > 1099511627776))then(.inr (0,4))else(.inr ((lT (W ((W (a0*v7))*1048576)) (W ((pJ (W ((W ((dB a2 a2)*1048576))*1048576))) - v5))),0))))
noncomputable def aG2:=dK [1,1,1,1,1,0] [] (aX Tryz.f54)
def aG3 (a0 a1:Int)(a2:Zt)(a3 v1:Int):LS:=⟨jT 79 [(0,(iv a0)),(3,(iv a3)),(6,(.p 0 0)),(11,(iv v1))],[(.live true false (k3 a2))]⟩
def lU (a0 a1:Int)(a2:Zt)(a3:Int):Int->Zs | v1 => (bif (decide (((pJ (W ((W ((dB a2 a2)*1048576))*1048576))):Int)<=v1))then(0,10)else(aE (sM a0 a1 a2 a3) (tN (a3 - 0)+1) (v1,(lT (W (v1*1048576)) (pJ (W ((W ((dB a2 a2)*1048576))*1048576)))),(lT (W (v1*1048576)) (pJ (W ((W ((dB a2 a2)*1048576))*1048576)))),0)))
theorem bAx (a0 a1:Int)(a2:Zt)(a3:Int) {cx:Cx} (hcx:cx.base=0):∀(n:Nat) (v5 v6 v7 v8:Int),(0<=v8)/\(a3<=2)/\(0<=v5)/\(v5 < (pJ (W ((W ((dB a2 a2)*1048576))*1048576))))->tN (a3 - v8) < n->gG Tryz.f54 cx (.t (k2 (aE (sM a0 a1 a2 a3) n (v5,v6,v7,v8)))) [] [] (.l aNq.1 n::aNq.2) (aLe a0 a1 a2 a3 v5 v6 v7 v8):=by
 intro n
 induction n with|zero=>intro v5 v6 v7 v8 hi hn;exact absurd hn (fW _)|succ n ih=>?_
 intro v5 v6 v7 v8 hi hn;refine aS ?_;have hb2:=aNo (W ((W ((dB a2 a2)*1048576))*1048576));have hw2:=aG (n:=(pJ (W ((W ((dB a2 a2)*1048576))*1048576))) - v5) (by omega) (by omega);cases h0:(decide ((v8:Int) < a3))
 case true=>have q0:=dE h0;have e:=Eq.refl (sM a0 a1 a2 a3 (v5,v6,v7,v8));(conv at e=>rhs;simp only [sM,h0,aQ]);rw [aD e];refine bA n [.d h0,.c [] (aYb (W (v7*v6)) 1048576  (by omega))] [0,11,12,13,14,60,61] [] hcx aNq (aLe a0 a1 a2 a3 v5 v6 (lT (W (v7*v6)) 1048576) (W (v8+1))) ?_;have z0:(W (v8+1))=(v8+1):=aG (by omega) (by omega);rw [z0];exact ih _ _ _ _ (by refine⟨?_,?_,?_,?_⟩<;>(try simp only [Ls])<;>first | omega | assumption | simp) (by omega)
 have q0:=dO h0;let t1:SL:=[.d h0,.c [] (aYb (W ((W (a0*v7))*1048576)) (W ((pJ (W ((W ((dB a2 a2)*1048576))*1048576))) - v5))  (by omega))];cases h1:(decide (((lT (W ((W (a0*v7))*1048576)) (W ((pJ (W ((W ((dB a2 a2)*1048576))*1048576))) - v5))):Int) > 1099511627776))
 case true=>have q1:=dE h1;have e:=Eq.refl (sM a0 a1 a2 a3 (v5,v6,v7,v8));(conv at e=>rhs;simp only [sM,h0,h1,aQ]);rw [aJ,e];exact rT (t1++[.d h1]) hcx
 have q1:=dO h1;have e:=Eq.refl (sM a0 a1 a2 a3 (v5,v6,v7,v8));(conv at e=>rhs;simp only [sM,h0,h1,aQ]);rw [aJ,e];exact rT (t1++[.d h1]) hcx
theorem aSd (a0 a1:Int)(a2:Zt)(a3:Int) {cx:Cx} (hcx:cx.base=0)(v1:Int):(0<=v1)/\(v1<=2147483648)/\(a3<=2)->gG Tryz.f54 cx (.t (k2 (lU a0 a1 a2 a3 v1))) [] [] (.c aG2.1::aG2.2) (aG3 a0 a1 a2 a3 v1):=by
 intro hi;have hb2:=aNo (W ((W ((dB a2 a2)*1048576))*1048576));have hw2:=aG (n:=(pJ (W ((W ((dB a2 a2)*1048576))*1048576))) - v1) (by omega) (by omega);let t0:SL:=[.c [] (aOx a2 a2),.c [] (C99 (W ((W ((dB a2 a2)*1048576))*1048576)))];cases h0:(decide (((pJ (W ((W ((dB a2 a2)*1048576))*1048576))):Int)<=v1))
 case true=>have q0:=dE h0;have e:=Eq.refl (lU a0 a1 a2 a3 v1);(conv at e=>rhs;simp only [lU,h0,aQ]);rw [e];exact rT (t0++[.d h0]) hcx
 have q0:=dO h0;have e:=Eq.refl (lU a0 a1 a2 a3 v1);(conv at e=>rhs;simp only [lU,h0,aQ]);rw [e];refine eN (t0++[.d h0,.c [] (aYb (W (v1*1048576)) (pJ (W ((W ((dB a2 a2)*1048576))*1048576)))  (by omega))]) [0,11,12,13,14,60,61] [] hcx aNq (aLe a0 a1 a2 a3 v1 (lT (W (v1*1048576)) (pJ (W ((W ((dB a2 a2)*1048576))*1048576)))) (lT (W (v1*1048576)) (pJ (W ((W ((dB a2 a2)*1048576))*1048576)))) 0) (tN (a3 - 0)+1) ?_;exact bAx a0 a1 a2 a3 hcx (tN (a3 - 0)+1) v1 (lT (W (v1*1048576)) (pJ (W ((W ((dB a2 a2)*1048576))*1048576)))) (lT (W (v1*1048576)) (pJ (W ((W ((dB a2 a2)*1048576))*1048576)))) 0 (by refine⟨?_,?_,?_,?_⟩<;>(try simp only [Ls])<;>first | omega | assumption | simp) (by omega)
def sS (a0 a1:Int)(a2:Zt)(a3:Int):Zs := (bif (!(rC a0 0 1048576))then(0,1)else(bif (!(rC a1 0 131072))then(0,1)else(bif (!(F91 a2 384))then(0,1)else(bif (!(rC a3 0 2))then(0,1)else(bif (decide (((W ((pJ (W ((W (a1*1048576))*1048576)))*(pJ (W ((W (a1*1048576))*1048576))))):Int) < (W ((W (a1*1048576))*1048576))))then(lU a0 a1 a2 a3 (W ((pJ (W ((W (a1*1048576))*1048576)))+1)))else(lU a0 a1 a2 a3 (pJ (W ((W (a1*1048576))*1048576)))))))))
theorem C54 (a0 a1:Int)(a2:Zt)(a3:Int):Con Tryz.prog 54 [(iv a0),(iv a1),(.a (k3 a2)),(iv a3)] [] (.t (k2 (sS a0 a1 a2 a3))) []:=by
 refine cS Tryz.func54 fun cx hcx=>?_
 have hb1:=aNo (W ((W (a1*1048576))*1048576));have hb2:=aNo (W ((W ((dB a2 a2)*1048576))*1048576));have hw1:=aG (n:=(pJ (W ((W (a1*1048576))*1048576)))+1) (by omega) (by omega);let t0:SL:=[.c [] (C98 a0 0 1048576)];cases h0:(!(rC a0 0 1048576))
 case true=>have e:=Eq.refl (sS a0 a1 a2 a3);(conv at e=>rhs;simp only [sS,h0,aQ]);rw [e];exact rT (t0++[.d h0]) hcx
 let t1:SL:=t0++[.d h0,.c [] (C98 a1 0 131072)];cases h1:(!(rC a1 0 131072))
 case true=>have e:=Eq.refl (sS a0 a1 a2 a3);(conv at e=>rhs;simp only [sS,h0,h1,aQ]);rw [e];exact rT (t1++[.d h1]) hcx
 let t2:SL:=t1++[.d h1,.c [] (C91 a2 384)];cases h2:(!(F91 a2 384))
 case true=>have e:=Eq.refl (sS a0 a1 a2 a3);(conv at e=>rhs;simp only [sS,h0,h1,h2,aQ]);rw [e];exact rT (t2++[.d h2]) hcx
 let t3:SL:=t2++[.d h2,.c [] (C98 a3 0 2)];cases h3:(!(rC a3 0 2))
 case true=>have e:=Eq.refl (sS a0 a1 a2 a3);(conv at e=>rhs;simp only [sS,h0,h1,h2,h3,aQ]);rw [e];exact rT (t3++[.d h3]) hcx
 try have ho9:=aFi h3
 let t4:SL:=t3++[.d h3,.c [] (C99 (W ((W (a1*1048576))*1048576)))];cases h4:(decide (((W ((pJ (W ((W (a1*1048576))*1048576)))*(pJ (W ((W (a1*1048576))*1048576))))):Int) < (W ((W (a1*1048576))*1048576))))
 case true=>
  have q4:=dE h4
  try have ho9:=aFi h3
  have e:=Eq.refl (sS a0 a1 a2 a3);(conv at e=>rhs;simp only [sS,h0,h1,h2,h3,h4,aQ]);rw [e];refine gA (t4++[.d h4,.z 7]) [0,3,6,11] [0] hcx aG2 (aG3 a0 a1 a2 a3 (W ((pJ (W ((W (a1*1048576))*1048576)))+1))) ?_;exact aSd a0 a1 a2 a3 hcx (W ((pJ (W ((W (a1*1048576))*1048576)))+1)) (by refine⟨?_,?_,?_⟩<;>(try simp only [Ls])<;>first | omega | assumption | simp)
 have q4:=dO h4
 try have ho9:=aFi h3
 have e:=Eq.refl (sS a0 a1 a2 a3);(conv at e=>rhs;simp only [sS,h0,h1,h2,h3,h4,aQ]);rw [e];refine gA (t4++[.d h4,.z 7]) [0,3,6,11] [0] hcx aG2 (aG3 a0 a1 a2 a3 (pJ (W ((W (a1*1048576))*1048576)))) ?_;exact aSd a0 a1 a2 a3 hcx (pJ (W ((W (a1*1048576))*1048576))) (by refine⟨?_,?_,?_⟩<;>(try simp only [Ls])<;>first | omega | assumption | simp)
def F26 (a0:qJ)(a1:Int)(a2:Zt)(a3:Int):Zs×Int := (bif (((F53 a0 a2 a3).2:Int) != 0)then((0,0),(F53 a0 a2 a3).2)else(bif (((sS a0.2.1 a1 a2 a3).2:Int) != 0)then((0,0),(sS a0.2.1 a1 a2 a3).2)else(bif (!(rU ((W ((F53 a0 a2 a3).1.1 - (sS a0.2.1 a1 a2 a3).1)),(W ((F53 a0 a2 a3).1.2+(sS a0.2.1 a1 a2 a3).1)))))then((0,0),4)else(((W ((F53 a0 a2 a3).1.1 - (sS a0.2.1 a1 a2 a3).1)),(W ((F53 a0 a2 a3).1.2+(sS a0.2.1 a1 a2 a3).1))),0))))
theorem C26 (a0:qJ)(a1:Int)(a2:Zt)(a3:Int):Con Tryz.prog 26 [(.a (kS1 a0)),(iv a1),(.a (k3 a2)),(iv a3)] [] (.t [(.a (k2 (F26 a0 a1 a2 a3).1)),(iv (F26 a0 a1 a2 a3).2)]) []:=by
 refine cS Tryz.func26 fun cx hcx=>?_
 let t0:SL:=[.c [] (C53 a0 a2 a3)];cases h0:(((F53 a0 a2 a3).2:Int) != 0)
 case true=>have q0:=bne_iff_ne.1 h0;have e:=Eq.refl (F26 a0 a1 a2 a3);(conv at e=>rhs;simp only [F26,h0,aQ]);rw [e];exact rT (t0++[.d h0]) hcx
 have q0:=bne_eq_false_iff_eq.1 h0;let t1:SL:=t0++[.d h0,.c [] (C54 a0.2.1 a1 a2 a3)];cases h1:(((sS a0.2.1 a1 a2 a3).2:Int) != 0)
 case true=>have q1:=bne_iff_ne.1 h1;have e:=Eq.refl (F26 a0 a1 a2 a3);(conv at e=>rhs;simp only [F26,h0,h1,aQ]);rw [e];exact rT (t1++[.d h1]) hcx
 have q1:=bne_eq_false_iff_eq.1 h1;let t2:SL:=t1++[.d h1,.c [] (C55 ((W ((F53 a0 a2 a3).1.1 - (sS a0.2.1 a1 a2 a3).1)),(W ((F53 a0 a2 a3).1.2+(sS a0.2.1 a1 a2 a3).1))))];cases h2:(!(rU ((W ((F53 a0 a2 a3).1.1 - (sS a0.2.1 a1 a2 a3).1)),(W ((F53 a0 a2 a3).1.2+(sS a0.2.1 a1 a2 a3).1)))))
 case true=>have e:=Eq.refl (F26 a0 a1 a2 a3);(conv at e=>rhs;simp only [F26,h0,h1,h2,aQ]);rw [e];exact rT (t2++[.d h2]) hcx
 have e:=Eq.refl (F26 a0 a1 a2 a3);(conv at e=>rhs;simp only [F26,h0,h1,h2,aQ]);rw [e];exact rT (t2++[.d h2]) hcx
noncomputable def aBb:=bC [1,1,1,0,1] [] (aX Tryz.f24) []
def aDo (a0:cC)(a1:Zt)(v1 v2 v3 v4 v5 v6 v7 v8 v9 v10 v11 v12 v13 v14 v15:Int):LS:=⟨jT 34 [(4,(.p 1 0)),(7,(.p 2 0)),(20,(.s 0 0 a0.length 10)),(21,(iv (a0.length:Int))),(22,(iv v1))],[(.live false true (flat fJ a0)),(.live true false [(iv 0),(iv 0),(iv 0),(iv 0),(iv 0),(iv 0),(iv 0),(iv 0),(iv 0),(iv 0),(iv 0)]),(.live true false [(iv v2),(iv v3),(iv v4),(iv v5),(iv v6),(iv v7),(iv v8),(iv v9),(iv v10),(iv v11),(iv v12),(iv v13),(iv v14),(iv v15)])]⟩
def mO (a0:cC)(a1:Zt):Int×Int×Int×Int×Int×Int×Int×Int×Int×Int×Int×Int×Zt->(Int×Int×Int×Int×Int×Int×Int×Int×Int×Int×Int×Int×Zt)⊕(qJ×Int) | (v1,v2,v3,v4,v5,v6,v7,v8,v9,v10,v11,v12,v13,v14,v15) => (bif (decide ((v1:Int) < (a0.length:Int)))then(.inl ((v1+1),(pB ((v2,v3,(v4,v5,v6),(v7,v8,v9,v10,v11,v12)),(v13,v14,v15)) (a0.getD (tN v1) dF)).1.1,(pB ((v2,v3,(v4,v5,v6),(v7,v8,v9,v10,v11,v12)),(v13,v14,v15)) (a0.getD (tN v1) dF)).1.2.1,(pB ((v2,v3,(v4,v5,v6),(v7,v8,v9,v10,v11,v12)),(v13,v14,v15)) (a0.getD (tN v1) dF)).1.2.2.1.1,(pB ((v2,v3,(v4,v5,v6),(v7,v8,v9,v10,v11,v12)),(v13,v14,v15)) (a0.getD (tN v1) dF)).1.2.2.1.2.1,(pB ((v2,v3,(v4,v5,v6),(v7,v8,v9,v10,v11,v12)),(v13,v14,v15)) (a0.getD (tN v1) dF)).1.2.2.1.2.2,(pB ((v2,v3,(v4,v5,v6),(v7,v8,v9,v10,v11,v12)),(v13,v14,v15)) (a0.getD (tN v1) dF)).1.2.2.2.1,(pB ((v2,v3,(v4,v5,v6),(v7,v8,v9,v10,v11,v12)),(v13,v14,v15)) (a0.getD (tN v1) dF)).1.2.2.2.2.1,(pB ((v2,v3,(v4,v5,v6),(v7,v8,v9,v10,v11,v12)),(v13,v14,v15)) (a0.getD (tN v1) dF)).1.2.2.2.2.2.1,(pB ((v2,v3,(v4,v5,v6),(v7,v8,v9,v10,v11,v12)),(v13,v14,v15)) (a0.getD (tN v1) dF)).1.2.2.2.2.2.2.1,(pB ((v2,v3,(v4,v5,v6),(v7,v8,v9,v10,v11,v12)),(v13,v14,v15)) (a0.getD (tN v1) dF)).1.2.2.2.2.2.2.2.1,(pB ((v2,v3,(v4,v5,v6),(v7,v8,v9,v10,v11,v12)),(v13,v14,v15)) (a0.getD (tN v1) dF)).1.2.2.2.2.2.2.2.2,(pB ((v2,v3,(v4,v5,v6),(v7,v8,v9,v10,v11,v12)),(v13,v14,v15)) (a0.getD (tN v1) dF)).2.1,(pB ((v2,v3,(v4,v5,v6),(v7,v8,v9,v10,v11,v12)),(v13,v14,v15)) (a0.getD (tN v1) dF)).2.2.1,(pB ((v2,v3,(v4,v5,v6),(v7,v8,v9,v10,v11,v12)),(v13,v14,v15)) (a0.getD (tN v1) dF)).2.2.2))else(.inr ((v2,v3,(v4,v5,v6),(v7,v8,v9,v10,v11,v12)),0)))
theorem aUm (a0:cC)(a1:Zt)(l0:a0.length<=2^63-1) {cx:Cx} (hcx:cx.base=1):∀(n:Nat) (v1 v2 v3 v4 v5 v6 v7 v8 v9 v10 v11 v12 v13 v14 v15:Int),0<=v1->tN ((a0.length:Int) - v1) < n->gG Tryz.f24 cx (.t [(.a (kS1 (aE (mO a0 a1) n (v1,v2,v3,v4,v5,v6,v7,v8,v9,v10,v11,v12,v13,v14,v15)).1)),(iv (aE (mO a0 a1) n (v1,v2,v3,v4,v5,v6,v7,v8,v9,v10,v11,v12,v13,v14,v15)).2)]) [] [] (.l aBb.1 n::aBb.2) (aDo a0 a1 v1 v2 v3 v4 v5 v6 v7 v8 v9 v10 v11 v12 v13 v14 v15):=by
 intro n
 induction n with|zero=>intro v1 v2 v3 v4 v5 v6 v7 v8 v9 v10 v11 v12 v13 v14 v15 hi hn;exact absurd hn (fW _)|succ n ih=>?_
 intro v1 v2 v3 v4 v5 v6 v7 v8 v9 v10 v11 v12 v13 v14 v15 hi hn;refine aS ?_;cases h0:(decide ((v1:Int) < (a0.length:Int)))
 case true=>have q0:=dE h0;have e:=Eq.refl (mO a0 a1 (v1,v2,v3,v4,v5,v6,v7,v8,v9,v10,v11,v12,v13,v14,v15));(conv at e=>rhs;simp only [mO,h0,aQ]);rw [aD e];refine bA n [.d h0,.i v1 (a0.length),.L kE a0 v1 0 10,.c [2] (C52 ((v2,v3,(v4,v5,v6),(v7,v8,v9,v10,v11,v12)),(v13,v14,v15)) (a0.getD (tN v1) dF))] [4,7,20,21,22] [1,2] hcx aBb (aDo a0 a1 (W (v1+1)) ((pB ((v2,v3,(v4,v5,v6),(v7,v8,v9,v10,v11,v12)),(v13,v14,v15)) (a0.getD (tN v1) dF)).1.1) ((pB ((v2,v3,(v4,v5,v6),(v7,v8,v9,v10,v11,v12)),(v13,v14,v15)) (a0.getD (tN v1) dF)).1.2.1) ((pB ((v2,v3,(v4,v5,v6),(v7,v8,v9,v10,v11,v12)),(v13,v14,v15)) (a0.getD (tN v1) dF)).1.2.2.1.1) ((pB ((v2,v3,(v4,v5,v6),(v7,v8,v9,v10,v11,v12)),(v13,v14,v15)) (a0.getD (tN v1) dF)).1.2.2.1.2.1) ((pB ((v2,v3,(v4,v5,v6),(v7,v8,v9,v10,v11,v12)),(v13,v14,v15)) (a0.getD (tN v1) dF)).1.2.2.1.2.2) ((pB ((v2,v3,(v4,v5,v6),(v7,v8,v9,v10,v11,v12)),(v13,v14,v15)) (a0.getD (tN v1) dF)).1.2.2.2.1) ((pB ((v2,v3,(v4,v5,v6),(v7,v8,v9,v10,v11,v12)),(v13,v14,v15)) (a0.getD (tN v1) dF)).1.2.2.2.2.1) ((pB ((v2,v3,(v4,v5,v6),(v7,v8,v9,v10,v11,v12)),(v13,v14,v15)) (a0.getD (tN v1) dF)).1.2.2.2.2.2.1) ((pB ((v2,v3,(v4,v5,v6),(v7,v8,v9,v10,v11,v12)),(v13,v14,v15)) (a0.getD (tN v1) dF)).1.2.2.2.2.2.2.1) ((pB ((v2,v3,(v4,v5,v6),(v7,v8,v9,v10,v11,v12)),(v13,v14,v15)) (a0.getD (tN v1) dF)).1.2.2.2.2.2.2.2.1) ((pB ((v2,v3,(v4,v5,v6),(v7,v8,v9,v10,v11,v12)),(v13,v14,v15)) (a0.getD (tN v1) dF)).1.2.2.2.2.2.2.2.2) ((pB ((v2,v3,(v4,v5,v6),(v7,v8,v9,v10,v11,v12)),(v13,v14,v15)) (a0.getD (tN v1) dF)).2.1) ((pB ((v2,v3,(v4,v5,v6),(v7,v8,v9,v10,v11,v12)),(v13,v14,v15)) (a0.getD (tN v1) dF)).2.2.1) ((pB ((v2,v3,(v4,v5,v6),(v7,v8,v9,v10,v11,v12)),(v13,v14,v15)) (a0.getD (tN v1) dF)).2.2.2)) ?_;have z0:(W (v1+1))=(v1+1):=aG (by omega) (by omega);rw [z0];exact ih _ _ _ _ _ _ _ _ _ _ _ _ _ _ _ (by omega) (by omega)
 have q0:=dO h0;have e:=Eq.refl (mO a0 a1 (v1,v2,v3,v4,v5,v6,v7,v8,v9,v10,v11,v12,v13,v14,v15));(conv at e=>rhs;simp only [mO,h0,aQ]);rw [aJ,e];exact rT [.d h0] hcx
def jR (a0:cC)(a1:Zt):qJ×Int := (bif (((mV a0 a1):Int) != 0)then((0,0,(0,0,0),(0,0,0,0,0,0)),(mV a0 a1))else(aE (mO a0 a1) (tN ((a0.length:Int) - 0)+1) (0,0,0,0,0,0,0,0,0,0,0,0,a1.1,a1.2.1,a1.2.2)))
theorem bAy (a0:cC)(a1:Zt)(l0:a0.length<=2^63-1):Con Tryz.prog 24 [(.s 0 0 a0.length 10),(.a (k3 a1))] [(.live false true (flat fJ a0))] (.t [(.a (kS1 (jR a0 a1).1)),(iv (jR a0 a1).2)]) []:=by
 refine cS Tryz.func24 fun cx hcx=>?_
 let t0:SL:=[.c [0] (aV2 a0 a1 (by omega))];cases h0:(((mV a0 a1):Int) != 0)
 case true=>have q0:=bne_iff_ne.1 h0;have e:=Eq.refl (jR a0 a1);(conv at e=>rhs;simp only [jR,h0,aQ]);rw [e];exact rT (t0++[.d h0]) hcx
 have q0:=bne_eq_false_iff_eq.1 h0;have e:=Eq.refl (jR a0 a1);(conv at e=>rhs;simp only [jR,h0,aQ]);rw [e];refine eN (t0++[.d h0]) [4,7,20,21,22] [2,3] hcx aBb (aDo a0 a1 0 0 0 0 0 0 0 0 0 0 0 0 (a1.1) (a1.2.1) (a1.2.2)) (tN ((a0.length:Int) - 0)+1) ?_;exact aUm a0 a1 l0 hcx (tN ((a0.length:Int) - 0)+1) 0 0 0 0 0 0 0 0 0 0 0 0 (a1.1) (a1.2.1) (a1.2.2) (by omega) (by omega)
def aO6 (a0:qJ):Int := (bif (decide ((a0.2.1:Int) < 0))then 1 else(bif (decide ((a0.2.1:Int) > 1048576))then 1 else(bif (decide ((a0.1:Int) > a0.2.1))then 1 else(bif (decide ((a0.1:Int) < (W (0 - a0.2.1))))then 1 else(bif (!(F59 a0.2.2.1 1073741824))then 1 else(bif (decide ((a0.2.2.2.1:Int) > 17179869184))then 1 else(bif (decide ((a0.2.2.2.1:Int) < (-17179869184)))then 1 else(bif (decide ((a0.2.2.2.2.1:Int) > 17179869184))then 1 else(bif (decide ((a0.2.2.2.2.1:Int) < (-17179869184)))then 1 else(bif (decide ((a0.2.2.2.2.2.1:Int) > 17179869184))then 1 else(bif (decide ((a0.2.2.2.2.2.1:Int) < (-17179869184)))then 1 else(bif (decide ((a0.2.2.2.2.2.2.1:Int) > 17179869184))then 1 else(bif (decide ((a0.2.2.2.2.2.2.1:Int) < (-17179869184)))then 1 else(bif (decide ((a0.2.2.2.2.2.2.2.1:Int) > 17179869184))then 1 else(bif (decide ((a0.2.2.2.2.2.2.2.1:Int) < (-17179869184)))then 1 else(bif (decide ((a0.2.2.2.2.2.2.2.2:Int) > 17179869184))then 1 else(bif (decide ((a0.2.2.2.2.2.2.2.2:Int) < (-17179869184)))then 1 else 0)))))))))))))))))
def rI (a0 a1:Int):Int := (W (tD (W ((W (a0+a1)) - 1)) a1))
theorem aLf {n k:Int} (hk:0<=k/\k<=1073741824):(F63 n<=k/\n≥W (0 - k))↔(-k<=n/\n<=k):=by
 have e:W (0 - k)=0 - k:=aG (by omega) (by omega);rw [e];unfold F63;constructor
 ·rintro ⟨h1,h2⟩
  split at h1<;>omega
 ·intro h;rw [aG (n:=0 - n) (by omega) (by omega)];constructor
  ·split<;>omega
  ·omega
theorem aNr {p:Zt} {k:Int} (hk:0<=k/\k<=1073741824):F59 p k=true↔(-k<=p.1/\p.1<=k)/\(-k<=p.2.1/\p.2.1<=k)/\(-k<=p.2.2/\p.2.2<=k):=by
 rw [←aLf (n:=p.1) hk,←aLf (n:=p.2.1) hk,←aLf (n:=p.2.2) hk];unfold F59;by_cases h1:F63 p.1<=k<;>by_cases h2:F63 p.2.1<=k<;>by_cases h3:F63 p.2.2<=k<;>by_cases h4:p.1≥W (0 - k)<;>by_cases h5:p.2.1≥W (0 - k)<;>simp [h1,h2,h3,h4,h5]
theorem aLg {p:Zt} {k:Int} (hk:0<=k/\k<=1073741824):F91 p k=F59 p k:=by
 rw [Bool.eq_iff_iff,aGw hk,aNr hk]
theorem bAz {u:Zt} (hb:(-384<=u.1/\u.1<=384)/\(-384<=u.2.1/\u.2.1<=384)/\(-384<=u.2.2/\u.2.2<=384)):uQ u=n2 u:=by
 rw [←aDm hb];rfl
theorem aG4 (a:Zs):rU a=true↔vs a:=by
 constructor
 ·intro hv;unfold rU at hv;unfold vs;by_cases c1:a.1≥-1099511627776
  ·by_cases c2:a.1<=a.2
   ·by_cases c3:a.2<=1099511627776
    ·exact⟨c1,c2,c3⟩
    ·rw [cL c1,cL c2,cV c3] at hv;simp at hv
   ·rw [cL c1,cV c2] at hv;simp at hv
  ·rw [cV c1] at hv;simp at hv
 ·exact aGh
theorem aUn {a b:Zs} (ha:vs a)(hb:vs b):nH (a,b)=0:=by
 unfold nH;rw [aGh ha,aGh hb];rfl
theorem aWd {lo hi:Int} (h:(rK lo hi).2=0):rK lo hi=((lo,hi),0)/\vs (lo,hi):=by
 rcases uJ lo hi with⟨e,hv⟩ | e
 ·exact⟨e,hv⟩
 ·rw [e] at h;exact absurd h (by decide)
def fl (n:Int):Int:=n / 1048576
def ce (n:Int):Int:=-(-n / 1048576)
theorem bA0 (n:Int):fl n*1048576<=n:=by unfold fl;omega
theorem bA1 (n:Int):n<=ce n*1048576:=by unfold ce;omega
def b40 (x:Int):Prop:=-1099511627776<=x/\x<=1099511627776
theorem bA2 (x:Int):((bO 64 x &&& bO 64 1048575).toNat:Int)=x % 1048576:=by
 have e:(bO 64 1048575).toNat=2 ^ 20 - 1:=by decide
 rw [BitVec.toNat_and,e,Nat.and_two_pow_sub_one_eq_mod,BitVec.toNat_ofInt];omega
theorem aWe (x:Int):fD x (2 ^ (min (tN 20) 64))=x / 1048576:=aKm x 20 (m:=1048576) (by decide)
theorem aJq {x y:Int} (hx:b40 x)(hy:b40 y):aEq x y=fl (x*y):=by
 unfold aEq fl;unfold b40 at hx hy;rw [bA2,aWe,aWe,aG (n:=x % 1048576) (by omega) (by omega)];have m1:=dN (a:=1048576) (b:=1099511627776) (x:=x / 1048576) (y:=y) ⟨by omega,by omega⟩ hy;have m2:=dN (a:=1048576) (b:=1099511627776) (x:=x % 1048576) (y:=y) ⟨by omega,by omega⟩ hy;rw [aG (n:=x / 1048576*y) (by omega) (by omega),aG (n:=x % 1048576*y) (by omega) (by omega),aG (by omega) (by omega)];have e:x*y=x / 1048576*y*1048576+x % 1048576*y:=by
  have:x=x / 1048576*1048576+x % 1048576:=by omega
  conv=>lhs;rw [this]
  grind
 rw [e];generalize x / 1048576*y=A;generalize x % 1048576*y=B;omega
theorem aNs {x y:Int} (hx:b40 x)(hy:b40 y):aGx x y=ce (x*y):=by
 unfold aGx;have hx':b40 (-x):=by unfold b40 at *;omega
 have m:=dN (a:=1099511627776) (b:=1099511627776) (x:=x) (y:=y) hx hy;rw [aG (n:=0 - x) (by unfold b40 at hx;omega) (by unfold b40 at hx;omega),Int.zero_sub x,aJq hx' hy,Int.neg_mul,Int.zero_sub];unfold fl ce;rw [aG (by omega) (by omega)]
theorem aLh (a b:Int):iQ a b<=a/\iQ a b<=b/\(iQ a b=a\/iQ a b=b):=by unfold iQ;split<;>omega
theorem aLi (a b:Int):a<=bX a b/\b<=bX a b/\(bX a b=a\/bX a b=b):=by unfold bX;split<;>omega
def mn4 (f:Int->Int->Int)(a b:Zs):Int:=iQ (iQ (iQ (f a.1 b.1) (f a.1 b.2)) (f a.2 b.1)) (f a.2 b.2)
def mx4 (f:Int->Int->Int)(a b:Zs):Int:=bX (bX (bX (f a.1 b.1) (f a.1 b.2)) (f a.2 b.1)) (f a.2 b.2)
theorem aYd (f:Int->Int->Int)(a b:Zs):mn4 f a b<=f a.1 b.1/\mn4 f a b<=f a.1 b.2/\mn4 f a b<=f a.2 b.1/\mn4 f a b<=f a.2 b.2/\(mn4 f a b=f a.1 b.1\/mn4 f a b=f a.1 b.2\/mn4 f a b=f a.2 b.1\/mn4 f a b=f a.2 b.2):=by
 have h1:=aLh (f a.1 b.1) (f a.1 b.2);have h2:=aLh (iQ (f a.1 b.1) (f a.1 b.2)) (f a.2 b.1);have h3:=aLh (iQ (iQ (f a.1 b.1) (f a.1 b.2)) (f a.2 b.1)) (f a.2 b.2);unfold mn4;omega
theorem aYe (f:Int->Int->Int)(a b:Zs):f a.1 b.1<=mx4 f a b/\f a.1 b.2<=mx4 f a b/\f a.2 b.1<=mx4 f a b/\f a.2 b.2<=mx4 f a b/\(mx4 f a b=f a.1 b.1\/mx4 f a b=f a.1 b.2\/mx4 f a b=f a.2 b.1\/mx4 f a b=f a.2 b.2):=by
 have h1:=aLi (f a.1 b.1) (f a.1 b.2);have h2:=aLi (bX (f a.1 b.1) (f a.1 b.2)) (f a.2 b.1);have h3:=aLi (bX (bX (f a.1 b.1) (f a.1 b.2)) (f a.2 b.1)) (f a.2 b.2);unfold mx4;omega
theorem vb1 (n a b A:Int):(bif !(decide (a<=n/\n<=b)) then 1 else A)=bif decide (n > b) then 1 else bif decide (n < a) then 1 else A:=by
 by_cases h1:n > b
 ·rw [cL h1,cV (by omega)];rfl
 ·by_cases h2:n < a
  ·rw [cV h1,cL h2,cV (by omega)];rfl
  ·rw [cV h1,cV h2,cL (by omega)];rfl
theorem vb2 (n a b A:Int):(bif !(decide (a<=n/\n<=b)) then 1 else A)=bif decide (n < a) then 1 else bif decide (n > b) then 1 else A:=by
 by_cases h1:n > b
 ·rw [cL h1,cV (show ¬(a<=n/\n<=b) by omega)];cases decide (n < a)<;>rfl
 ·by_cases h2:n < a
  ·rw [cV h1,cL h2,cV (by omega)];rfl
  ·rw [cV h1,cV h2,cL (by omega)];rfl
theorem aWf (m:qJ):kZ m=aO6 m:=by
 unfold kZ aO6;simp only [pV];rw [sC m.2.1 0 1048576,vb2];simp only [sC,vb1,aLg (p:=m.2.2.1) (k:=1073741824) (by decide)]
theorem WaL (a b:Int):W (W a+b)=W (a+b):=by simp only [xC];(repeat' split)<;>omega
theorem WaR (a b:Int):W (a+W b)=W (a+b):=by simp only [xC];(repeat' split)<;>omega
theorem WsL (a b:Int):W (W a - b)=W (a - b):=by simp only [xC];(repeat' split)<;>omega
theorem WsR (a b:Int):W (a - W b)=W (a - b):=by simp only [xC];(repeat' split)<;>omega
theorem bA3 (a k:Int):W (a+k*18446744073709551616)=W a:=by simp only [xC];(repeat' split)<;>omega
theorem bA4 (a:Int):∃k:Int,W a=a+k*18446744073709551616:=by
 simp only [xC];split
 ·exact⟨-(a / 18446744073709551616) - 1,by omega⟩
 ·exact⟨-(a / 18446744073709551616),by omega⟩
theorem WmL (a b:Int):W (W a*b)=W (a*b):=by
 obtain⟨k,hk⟩:=bA4 a;rw [hk,show(a+k*18446744073709551616)*b=a*b+(k*b)*18446744073709551616 by grind,bA3]
theorem WmR (a b:Int):W (a*W b)=W (a*b):=by rw [Int.mul_comm,WmL,Int.mul_comm]
theorem bA5 (a:Int):-9223372036854775808<=W a/\W a < 9223372036854775808:=by simp only [xC];split<;>omega
theorem aYf {x:Int} (hx:0<=x/\x<=9223372036854775808):dL x 1048576=(x*1048576 / 18446744073709551616,x*1048576 % 18446744073709551616):=by
 obtain⟨h,l,rfl,h1,l1⟩:∃h l:Int,x=h*4294967296+l/\(0<=h/\h<=2147483648)/\(0<=l/\l < 4294967296):=⟨x / 4294967296,x % 4294967296,by omega,by omega,by omega⟩;unfold dL;simp only [xJ,aKt,aVp];rw [show(h*4294967296+l) / 4294967296=h by omega,show(h*4294967296+l) % 4294967296=l by omega,show(1048576:Int) / 4294967296=0 from by decide,show(1048576:Int) % 4294967296=1048576 from by decide];simp only [Int.mul_zero,Int.zero_emod];rw [eZ];exact⟨by omega,by omega⟩
def qsp (n d:Int):Zs:=(n*1048576 / d,-(-(n*1048576) / d))
theorem bA6 {X d:Int} (hd:0 < d):-(-X / d)=if X % d=0 then X / d else X / d+1:=by
 have h:=Int.mul_ediv_add_emod X d;have h1:=Int.emod_nonneg X (show d≠0 by omega);have h2:=Int.emod_lt_of_pos X hd;split
 ·rename_i h0;have e:-X=d*(-(X / d)):=by rw [Int.mul_neg];omega
  rw [e,Int.mul_ediv_cancel_left _ (by omega)];omega
 ·have e:-X=(d - X % d)+d*(-(X / d) - 1):=by rw [Int.mul_sub,Int.mul_neg];omega
  rw [e,Int.add_mul_ediv_left _ _ (by omega),Int.ediv_eq_zero_of_lt (by omega) (by omega)];omega
theorem bDj {n d:Int} (hn:-9223372036854775808<=n/\n < 9223372036854775808)(hd:0 < d/\d < 8796093022208) :
 (vs (qsp n d)/\pI n d=(qsp n d,true))\/(¬vs (qsp n d)/\(pI n d).2=false):=by
 obtain⟨A,hA,hA0⟩:∃A:Int,iW .u64 (bX n (W (0 - n)))=A/\0<=A/\A<=9223372036854775808/\((0<=n/\n=A)\/(n < 0/\n=-A)):=by
  refine⟨_,rfl,?_⟩;rw [xJ,xC];unfold bX
  (repeat' split)<;>omega
 obtain⟨a0,a1,a2⟩:=hA0;have hu:iW .u64 d=d:=pH (by omega);unfold pI;rw [hA,hu,aYf ⟨a0,a1⟩];simp only;have hcd:=bA6 (X:=A*1048576) hd.1;have hN0:0<=A*1048576:=by omega
 have hq0:0<=A*1048576 / d:=Int.ediv_nonneg hN0 (by omega);have hqs:(0<=n/\qsp n d=(A*1048576 / d,if A*1048576 % d=0 then A*1048576 / d else A*1048576 / d+1))\/(n < 0/\qsp n d=(-(if A*1048576 % d=0 then A*1048576 / d else A*1048576 / d+1),-(A*1048576 / d))):=by
  rcases a2 with⟨h1,h2⟩ | ⟨h1,h2⟩
  ·left;refine⟨h1,?_⟩;unfold qsp;rw [h2,hcd]
  ·right;refine⟨h1,?_⟩;unfold qsp;rw [h2,show -A*1048576=-(A*1048576) by omega,Int.neg_neg,←hcd,Int.neg_neg]
 have hbig:1099511627776 < A*1048576 / d->¬vs (qsp n d):=by
  intro h hv;unfold vs at hv;rcases hqs with⟨h1,h2⟩ | ⟨h1,h2⟩<;>rw [h2] at hv<;>simp only at hv<;>split at hv<;>omega
 by_cases hc:A*1048576 / 18446744073709551616≥d
 ·rw [cL hc,cond_true];refine .inr ⟨hbig ?_,rfl⟩;have h1:d*18446744073709551616<=A*1048576:=by omega
  have h2:(18446744073709551616:Int)<=A*1048576 / d:=(Int.le_ediv_iff_mul_le hd.1).2 (by omega);omega
 ·rw [cV hc,cond_false];rw [aR8 (hi:=A*1048576 / 18446744073709551616) (lo:=A*1048576 % 18446744073709551616) (y:=d) ⟨by omega,by omega,by omega⟩,show A*1048576 / 18446744073709551616*18446744073709551616+A*1048576 % 18446744073709551616=A*1048576 by omega];simp only;have hr0:=Int.emod_nonneg (A*1048576) (show d≠0 by omega);generalize A*1048576 / d=q at *;generalize A*1048576 % d=r at *;by_cases h1:q > 1099511627776
  ·rw [cL h1,cond_true];exact .inr ⟨hbig h1,rfl⟩
  ·rw [cV h1,cond_false,aG (n:=q) (by omega) (by omega),aG (n:=q+1) (by omega) (by omega),aG (n:=0 - q) (by omega) (by omega),aG (n:=0 - (q+1)) (by omega) (by omega)];have hfin:∀s:Zs,s=qsp n d->(vs (qsp n d)/\((s,rU s):Zs×Bool)=(qsp n d,true))\/(¬vs (qsp n d)/\((s,rU s):Zs×Bool).2=false):=by
    rintro s rfl
    by_cases hv:vs (qsp n d)
    ·exact .inl ⟨hv,by rw [(aG4 _).2 hv]⟩
    ·exact .inr ⟨hv,by cases h:rU (qsp n d);rfl;exact absurd ((aG4 _).1 h) hv⟩
   rcases hqs with⟨h2,h3⟩ | ⟨h2,h3⟩
   ·simp only [cV (show ¬n < 0 by omega),cond_false];by_cases h4:r > 0
    ·rw [cL h4,cond_true];rw [if_neg (by omega)] at h3;exact hfin _ h3.symm
    ·rw [cV h4,cond_false];rw [if_pos (by omega)] at h3;exact hfin _ h3.symm
   ·simp only [cL h2,cond_true];by_cases h4:r > 0
    ·rw [cL h4,cond_true];rw [if_neg (by omega)] at h3;exact hfin _ (by rw [h3,Int.zero_sub,Int.zero_sub])
    ·rw [cV h4,cond_false];rw [if_pos (by omega)] at h3;exact hfin _ (by rw [h3,Int.zero_sub])
def ml4 (x y:Int):Int:=fl (x*y)
def mh4 (x y:Int):Int:=ce (x*y)
theorem bA7 {a:Zs} (h:vs a):b40 a.1/\b40 a.2:=by unfold vs at h;unfold b40;omega
theorem aYg {a b:Zs} (ha:vs a)(hb:vs b):aJo a b=rK (mn4 ml4 a b) (mx4 mh4 a b):=by
 obtain⟨a1,a2⟩:=bA7 ha;obtain⟨b1,b2⟩:=bA7 hb;show iP a b=_;unfold iP;have e:dU a b=(mn4 ml4 a b,mx4 mh4 a b):=by
  unfold dU mn4 mx4 ml4 mh4;rw [aJq a1 b1,aJq a1 b2,aJq a2 b1,aJq a2 b2,aNs a1 b1,aNs a1 b2,aNs a2 b1,aNs a2 b2]
 rw [aUn ha hb];show((rK (dU a b).1 (dU a b).2).1,(rK (dU a b).1 (dU a b).2).2)=_;rw [e]
theorem aSe {n:Int} (h:1<=n/\n<=1000000000):qK n 1=(qZ 1 n,0):=by
 have hs:(1:Int)=1\/(1:Int)=2\/(1:Int)=4\/(1:Int)=8:=.inl rfl;obtain⟨e1,e2⟩:=aZu hs;unfold qK qZ;have e:W ((W ((1:Int)*1))*2 ^ (min (tN 40) 64))=NN 1:=by kernel_rfl
 rw [cV (show ¬n < 1 by omega),cond_false,cV (show ¬n > 1099511627776 by omega),cond_false,e1,cond_false,e2,cond_false,if_neg (show ¬n < 1 by omega),e,aVl (aCu hs) (by omega)]
theorem aSf (n:Int):vs (qZ 1 n):=by
 have h:=wG (s:=1) (.inl rfl);have h1:=h.lo n;have h2:=h.le n;have h3:=h.hi n;unfold vs;omega
noncomputable def tqV (x d n:Int):Zs×Int:=open Classical in if vs (qsp x d)then rK (mn4 ml4 (qsp x d) (qZ 1 n)) (mx4 mh4 (qsp x d) (qZ 1 n))else((0,0),4)
theorem aSg {x d n:Int} (hx:-9223372036854775808<=x/\x < 9223372036854775808)(hd:0 < d/\d < 8796093022208)(hn:1<=n/\n<=1000000000):uS x d n=tqV x d n:=by
 unfold uS tqV;rw [aSe hn];rcases bDj hx hd with⟨h1,h2⟩ | ⟨h1,h2⟩
 ·rw [if_pos h1,h2];show aJo (qsp x d) (qZ 1 n)=_;rw [aYg h1 (aSf n)]
 ·rw [if_neg h1,h2];rfl
theorem aYh {m:qJ} (h:aO6 m=0):(0<=m.2.1/\m.2.1<=1048576)/\-1048576<=m.1/\m.1<=1048576:=by
 rw [←aWf] at h;unfold kZ at h;rw [sC,sC] at h;simp only [pV] at h;by_cases h1:0<=m.2.1/\m.2.1<=1048576
 ·rw [aG (n:=0 - m.2.1) (by omega) (by omega)] at h;by_cases h2:0 - m.2.1<=m.1/\m.1<=m.2.1
  ·omega
  ·rw [cL h1,cV h2] at h;exact absurd h (by simp)
 ·rw [cV h1] at h;exact absurd h (by simp)
noncomputable def gZ (m:qJ)(u:Zt)(k:Int):Zs×Int := if k=0 then rK (scl (qZ 1 (n2 u)) m.1).1 (scl (qZ 1 (n2 u)) m.1).2 else if k=1 then tqV (dB m.2.2.1 u) (3*n2 u) (n2 u)else tqV (W ((W (3*aAt m u)) - (W (n2 u*aAr m)))) (24*(n2 u*n2 u)) (n2 u)
theorem aYi {m:qJ} {u:Zt} {k:Int} (hm:aO6 m=0)(hu:UOK u):F97 m u k=gZ m u k:=by
 have hb:=aAf hu;have hs:=aR9 hu;have hc:=aYh hm;unfold F97 gZ;rw [aWb hu,aWc hu,aDm hu.bd,aSe (n:=n2 u) (by omega)];by_cases h0:k=0
 ·rw [if_pos h0,beq_iff_eq.2 h0];show wL (qZ 1 (n2 u)) m.1=_;rw [aMm (aSf _) (by omega)]
 ·rw [if_neg h0,beq_eq_false_iff_ne.2 h0,cond_false];by_cases h1:k=1
  ·rw [if_pos h1,beq_iff_eq.2 h1,cond_true];show uS (dB m.2.2.1 u) (3*n2 u) (n2 u)=_;exact aSg (by unfold dB;exact bA5 _) (by omega) (by omega)
  ·rw [if_neg h1,beq_eq_false_iff_ne.2 h1,cond_false];show uS (W ((W (3*aAt m u)) - (W (n2 u*aAr m)))) (24*(n2 u*n2 u)) (n2 u)=_;exact aSg (bA5 _) (by omega) (by omega)
theorem aYj (a b:Int):((rK a b).2=0/\vs (rK a b).1)\/rK a b=((0,0),4):=by
 rcases uJ a b with⟨e,hv⟩ | e
 ·left;rw [e];exact⟨rfl,hv⟩
 ·right;exact e
theorem aG5 (m:qJ)(u:Zt)(k:Int):((gZ m u k).2=0/\vs (gZ m u k).1)\/gZ m u k=((0,0),4):=by
 unfold gZ tqV
 (repeat' split)<;>first | exact aYj _ _ | exact .inr rfl
theorem aWg (a b c:Zs):nP [c,b,a] (0,0)=nP [a,b,c] (0,0)/\nP [b,a] (0,0)=nP [a,b] (0,0):=by
 simp only [aGg,List.map_cons,List.map_nil,List.sum_cons,List.sum_nil,eZ];omega
noncomputable def vlV (m:qJ)(u:Zt)(o:Int):Zs×Int := if(gZ m u 0).2≠0 then((0,0),4)else if o=0 then aEb [(gZ m u 0).1]else if(gZ m u 1).2≠0 then((0,0),4)else if o=1 then aEb [(gZ m u 0).1,(gZ m u 1).1]else if(gZ m u 2).2≠0 then((0,0),4)else aEb [(gZ m u 0).1,(gZ m u 1).1,(gZ m u 2).1]
theorem bDk {m:qJ} {u:Zt} (hm:aO6 m=0)(hu:UOK u)(k:Int)(l:List Zs)(e:Int):gE k m u l e=(l++[(gZ m u k).1],if e=0 then(gZ m u k).2 else e):=by
 unfold gE;rw [aYi hm hu];by_cases h:e=0
 ·rw [if_pos h,beq_iff_eq.2 h];rfl
 ·rw [if_neg h,beq_eq_false_iff_ne.2 h];rfl
theorem bDl {m:qJ} {u:Zt} {o:Int} (hm:aO6 m=0)(hu:UOK u)(ho:0<=o/\o<=2):pC m u o []=vlV m u o:=by
 have hS:∀(l:List Zs) (e:Int),(∀a∈l,e=0->vs a)->l.length<=10->jB m u o (l,e)=if e=0 then aEb l else((0,0),e):=by
  intro l e hl hn;simp only [jB];by_cases h:e=0
  ·rw [bne_eq_false_iff_eq.2 h,if_pos h];show oK l=_;exact aQq (fun a ha=>hl a ha h) (by omega)
  ·rw [bne_iff_ne.2 h,if_neg h];rfl
 simp only [pC,bDk hm hu,List.nil_append,List.cons_append];unfold vlV;have e0:=aG5 m u 0;have e1:=aG5 m u 1;have e2:=aG5 m u 2;rcases (show o=0\/o=1\/o=2 by omega) with rfl | rfl | rfl
 ·show jB m u 0 ([(gZ m u 0).1],(gZ m u 0).2)=_;rcases e0 with⟨z0,v0⟩ | z0
  ·rw [z0,hS _ _ (by simp [v0]) (by simp)];rfl
  ·rw [z0,hS _ _ (by simp) (by simp)];rfl
 ·show jB m u 1 ([(gZ m u 1).1,(gZ m u 0).1],if(gZ m u 1).2=0 then(gZ m u 0).2 else(gZ m u 1).2)=_;rcases e0 with⟨z0,v0⟩ | z0<;>rcases e1 with⟨z1,v1⟩ | z1
  ·rw [z0,z1,hS _ _ (by simp [v0,v1]) (by simp)];simp only [aEb,(aWg (gZ m u 0).1 (gZ m u 1).1 (0,0)).2];rfl
  ·rw [z0,z1,hS _ _ (by simp) (by simp)];rfl
  ·rw [z0,z1,hS _ _ (by simp) (by simp)];rfl
  ·rw [z0,z1,hS _ _ (by simp) (by simp)];rfl
 ·show jB m u 2 ([(gZ m u 2).1,(gZ m u 1).1,(gZ m u 0).1],if(if(gZ m u 2).2=0 then(gZ m u 1).2 else(gZ m u 2).2)=0 then(gZ m u 0).2 else(if(gZ m u 2).2=0 then(gZ m u 1).2 else(gZ m u 2).2))=_;rcases e0 with⟨z0,v0⟩ | z0<;>rcases e1 with⟨z1,v1⟩ | z1<;>rcases e2 with⟨z2,v2⟩ | z2
  ·rw [z0,z1,z2,hS _ _ (by simp [v0,v1,v2]) (by simp)];simp only [aEb,(aWg (gZ m u 0).1 (gZ m u 1).1 (gZ m u 2).1).1];rfl
  all_goals rw [z0,z1,z2,hS _ _ (by simp) (by simp)];rfl
theorem bA8 {α:Type} {b:Bool} {x A B:α} (h:b=false->A=B):(bif b then x else A)=(bif b then x else B):=by
 cases b
 case true=>rfl
 exact h rfl
def aEr (t r v e:Int):Zs := (bif (decide (((rI (W ((W (t*e))*1048576)) (W (r - v))):Int) > 1099511627776))then(0,4)else((rI (W ((W (t*e))*1048576)) (W (r - v))),0))
def aYk (t r v o:Int):Zs := if o=0 then aEr t r v (rI (W (v*1048576)) r)else if o=1 then aEr t r v (rI (W ((rI (W (v*1048576)) r)*(rI (W (v*1048576)) r))) 1048576)else aEr t r v (rI (W ((rI (W ((rI (W (v*1048576)) r)*(rI (W (v*1048576)) r))) 1048576)*(rI (W (v*1048576)) r))) 1048576)
theorem bA9 {t a:Int} {u:Zt} {o v r:Int} (ho:0<=o/\o<=2)(hr:pJ (W ((W ((dB u u)*1048576))*1048576))=r):lU t a u o v=bif decide (r<=v) then(0,10) else aYk t r v o:=by
 have hi:∀e k:Int,k < o->sM t a u o (v,rI (W (v*1048576)) r,e,k)=.inl (v,rI (W (v*1048576)) r,rI (W (e*rI (W (v*1048576)) r)) 1048576,k+1):=by
  intro e k h;simp only [sM];rw [cL h];rfl
 have hx:∀e:Int,sM t a u o (v,rI (W (v*1048576)) r,e,o)=.inr (aEr t r v e):=by
  intro e;simp only [sM,hr];rw [cV (Int.lt_irrefl _),cond_false];unfold aEr;rw [show lT=rI from rfl];cases decide (((rI (W ((W (t*e))*1048576)) (W (r - v))):Int) > 1099511627776)<;>rfl
 simp only [lU,hr];refine bA8 fun _=>?_
 rw [show lT=rI from rfl];unfold aYk;rcases (show o=0\/o=1\/o=2 by omega) with rfl | rfl | rfl
 ·exact aM (n:=0) (hx _)
 ·exact(aD (n:=1) (hi _ _ (by decide))).trans (aM (n:=0) (hx _))
 ·exact(aD (n:=2) (hi _ _ (by decide))).trans ((aD (n:=1) (hi _ _ (by decide))).trans (aM (n:=0) (hx _)))
theorem aG6 {n:Int} (h:F63 n<=256)(h2:n≥-256):-256<=n/\n<=256:=by
 unfold F63 at h;split at h<;>omega
theorem aG7 {n:Int} (h:-256<=n/\n<=256):F63 n<=256:=by
 unfold F63;rw [aG (by omega) (by omega)];split<;>omega
def aO7 (x:Zt):Prop:=(-256<=x.1/\x.1<=256)/\(-256<=x.2.1/\x.2.1<=256)/\(-256<=x.2.2/\x.2.2<=256)
theorem aDp (x:Zt):F59 x 256=true↔aO7 x:=by
 unfold F59 aO7;rw [show W (0 - 256)=-256 from rfl];constructor
 ·intro h;by_cases h1:F63 x.1<=256<;>by_cases h2:F63 x.2.1<=256<;>by_cases h3:F63 x.2.2<=256<;>simp [h1,h2,h3] at h;exact⟨aG6 h1 h.1,aG6 h2 h.2.1,aG6 h3 h.2.2⟩
 ·intro h;have h1:=aG7 h.1;have h2:=aG7 h.2.1;have h3:=aG7 h.2.2;simp [h1,h2,h3,h.1.1,h.2.1.1,h.2.2.1]
theorem aSh (n:Int):vI n (-256) 256=decide (-256<=n/\n<=256):=by
 unfold vI;by_cases h1:-256<=n<;>by_cases h2:n<=256<;>simp [h1,h2]
theorem aUo (x:Zt):F49 x=F59 x 256:=by
 have h:F49 x=true↔aO7 x:=by
  unfold F49 aO7;rw [aSh,aSh,aSh];by_cases h1:-256<=x.1/\x.1<=256<;>by_cases h2:-256<=x.2.1/\x.2.1<=256<;>simp [h1,h2]
 exact Bool.eq_iff_iff.2 (h.trans (aDp x).symm)
theorem aSi {l:fV} {t:TR} (x:Zt)(sep:Int)(h:aAe l t=0):(F50 t x sep).1.length<=96/\(F50 t x sep).2.length<=96:=by
 obtain⟨hv,leaf,h1,_,rfl⟩:=aGr h;have hl:=hv.1;have hb:=rX l hv.1 h1;rcases aLc l h1 with⟨_,e⟩ | ⟨hh,H⟩
 ·rw [e];exact⟨Nat.zero_le _,Nat.zero_le _⟩
 ·have hw:=kY H;unfold F50;rw [cL (show(((BT l leaf).2.length:Nat):Int) > 0 by omega),cond_true];simp only [sB,F89];have:=aA7 ((BT l leaf).2.length - tN 0+1) 0 (BT l leaf) x sep [] [] _ _ _ _ H (Int.le_refl _) (Int.le_refl _) (by omega) (Int.le_refl _) (Int.le_refl _) (by omega);exact⟨Int.ofNat_le.1 (Int.le_trans this.1 (by omega)),Int.ofNat_le.1 (Int.le_trans this.2 (by omega))⟩
theorem aDq (l:fV)(t:TR)(x:Zt)(sep:Int):(aC l t x sep).1.length<=96/\(aC l t x sep).2.1.length<=96:=by
 unfold aC;cases h0:((nI l (t.1,t.2) sep:Int) != 0)
 case true=>exact⟨Nat.zero_le _,Nat.zero_le _⟩
 have hc:=aSi x sep (aR5 h0);rw [cond_false];cases F49 x
 case true=>exact hc
 exact⟨Nat.zero_le _,Nat.zero_le _⟩
theorem aBc (l:fV) {leaf:Int} (hl:1<=leaf):∀(n:Nat) (ns:ZL) (fr a:Int),ns.length < n->(GT l leaf n ns fr a).1.Perm ns
 | 0,_,_,_,h=>absurd h (fW _)
 | n+1,ns,fr,a,h=>by
  by_cases h0:(ns.length:Int)<=leaf
  ·rw [mM h0]
  ·rw [mN h0];have hsl:=nR l (aV l ns) ns;refine((aBc l hl n _ _ _ (by rw [List.length_take,hsl];omega)).append (aBc l hl n _ _ _ (by rw [List.length_drop,hsl];omega))).trans ?_;rw [List.take_append_drop];exact List.mergeSort_perm ns _
theorem aBd (l:fV) {leaf:Int} (hl:1<=leaf):(BT l leaf).1.Perm (jS l.length):=by
 unfold BT;by_cases h0:l.length=0
 ·rw [if_pos h0,h0];exact List.Perm.refl _
 ·rw [if_neg h0];exact aBc l hl _ _ _ _ (by rw [eH];omega)
theorem aSj {l:fV} {leaf:Int} (h:(aA l leaf).2=0):xT l/\1<=leaf/\leaf<=16/\(aA l leaf).1=BT l leaf:=by
 rw [aDf] at h ⊢;unfold aK2 at h ⊢;cases h0:((oL l:Int) != 0)
 case true=>rw [h0,cond_true] at h;dsimp only at h;rw [h] at h0;cases h0
 have hv:=zD (l:=l) (by rw [rV];exact bne_eq_false_iff_eq.1 h0);rw [h0,cond_false] at h;rw [cond_false];by_cases h1:leaf < 1
 ·rw [cL h1,cond_true] at h;exact absurd h (by decide)
 ·by_cases h2:leaf > 16
  ·rw [cV h1,cond_false,cL h2,cond_true] at h;exact absurd h (by decide)
  ·rw [cV h1,cond_false,cV h2,cond_false];exact⟨hv,by omega,by omega,aDe l hv.1 (by omega)⟩
theorem fO {l:fV} {leaf:Int} (h:(aA l leaf).2=0):aR1 ((aA l leaf).1.1,(aA l leaf).1.2)/\(∀j,j < l.length->0<=(aA l leaf).1.1.getD j dF/\(aA l leaf).1.1.getD j dF < l.length)/\(aA l leaf).1.1.length=l.length:=by
 obtain⟨hv,h1,_,e⟩:=aSj h;have hb:=rX l hv.1 h1;refine⟨?_,fun j hj=>?_,by rw [e];exact hb.1⟩
 ·rw [e];exact aA8 l hv.1 h1
 ·rw [e];have hj2:j < (BT l leaf).1.length:=by omega
  have:=jK l.length _ ((aBd l h1).mem_iff.1 (List.getElem_mem hj2));rw [fS,List.getElem?_eq_getElem hj2];exact this
def inc (D:ZL)(j:Int):ZL:=D.set (tN j) (W (D.getD (tN j) dF+1))
def prt (t:TR)(i:Int):ZL:=Aw.part t.1 (t.2.getD (tN i) dF).1 (t.2.getD (tN i) dF).2.1
def occ (t:TR)(far pan:ZL):ZL:=far.flatMap (prt t)++pan
theorem aSk {l:ZL} {f c u:Int} (h:0<=f/\f<=c/\c<=u):Aw.part l f c++Aw.part l c u=Aw.part l f u:=by
 unfold Aw.part;rw [show tN u - tN f=(tN c - tN f)+(tN u - tN c) by omega,List.take_add,List.drop_drop,show tN f+(tN c - tN f)=tN c by omega]
theorem aSl {l:ZL} {k u:Int} (h:0<=k/\k < u/\u<=l.length):Aw.part l k u=l.getD (tN k) dF::Aw.part l (k+1) u:=by
 unfold Aw.part;have h1:tN k < l.length:=by omega
 rw [List.drop_eq_getElem_cons h1,show tN u - tN k=(tN u - tN (k+1))+1 by omega,List.take_succ_cons,fS,List.getElem?_eq_getElem h1,show tN (k+1)=tN k+1 by omega];rfl
theorem aSm {l:ZL}:Aw.part l 0 (l.length:Int)=l:=by unfold Aw.part;simp
theorem aUp {t:TR} {x:Zt} {sep:Int} {a m:Nat} {f u h:Int} (H:TRE t.2 a m f u h):∀(n:Nat) (far pan:ZL),0<=f->t.2.length - a < n ->
 (∀i∈(oA n (a:Int) t x sep far pan).1,i∈far\/(0<=i/\i < t.2.length))/\(occ t (oA n (a:Int) t x sep far pan).1 (oA n (a:Int) t x sep far pan).2).Perm (occ t far pan++Aw.part t.1 f u):=by
 have hfar:∀(a:Nat) (f u:Int) (far pan:ZL),a < t.2.length->(t.2.getD a dF).1=f->(t.2.getD a dF).2.1=u->(∀i∈far++[(a:Int)],i∈far\/(0<=i/\i < t.2.length))/\(occ t (far++[(a:Int)]) pan).Perm (occ t far pan++Aw.part t.1 f u):=by
  intro a f u far pan h1 h2 h3;refine⟨fun i hi=>?_,?_⟩
  ·rcases List.mem_append.1 hi with hi | hi
   ·exact .inl hi
   ·rw [List.mem_singleton.1 hi];exact .inr ⟨by omega,by omega⟩
  ·have e:prt t (a:Int)=Aw.part t.1 f u:=by unfold prt;rw [iH,h2,h3]
   unfold occ;rw [List.flatMap_append,List.flatMap_singleton,e,List.append_assoc,List.append_assoc];exact List.Perm.append_left _ List.perm_append_comm
 induction H with
 | @leaf a f u h1 h2 h3 h4 h5 h6 =>
  intro n far pan h0 hn;obtain⟨n,rfl⟩:∃q,n=q+1:=⟨n - 1,by omega⟩;by_cases hq:aLd t x sep a
  ·rw [aNk hq];exact hfar a f u far pan h1 h3 h4
  ·rw [aR3 hq (by omega),h3,h4];exact⟨fun i hi=>.inl hi,by unfold occ;rw [List.append_assoc]⟩
 | @node a m1 m2 f c u h1 h2 g1 g2 g3 g4 g5 b1 b2 i1 i2 =>
  intro n far pan h0 hn;obtain⟨n,rfl⟩:∃q,n=q+1:=⟨n - 1,by omega⟩;have l1:=kY b1;have l2:=kY b2;by_cases hq:aLd t x sep a
  ·rw [aNk hq];exact hfar a f u far pan g1 g2 g3
  ·rw [aR4 hq (by omega),g4,g5];obtain⟨j1,j2⟩:=i1 n far pan h0 (by omega);obtain⟨k1,k2⟩:=i2 n (oA n ((a+1:Nat):Int) t x sep far pan).1 (oA n ((a+1:Nat):Int) t x sep far pan).2 (by omega) (by omega);refine⟨fun i hi=>?_,?_⟩
   ·rcases k1 i hi with k1 | k1
    ·exact j1 i k1
    ·exact .inr k1
   ·refine k2.trans ((j2.append_right _).trans ?_);rw [List.append_assoc,aSk (by omega)]
theorem aG8 {l:fV} {leaf:Int} (hv:xT l)(h1:1<=leaf)(x:Zt)(sep:Int) :
 (∀i∈(F50 (BT l leaf) x sep).1,0<=i/\i < (BT l leaf).2.length)/\(occ (BT l leaf) (F50 (BT l leaf) x sep).1 (F50 (BT l leaf) x sep).2).Perm (jS l.length):=by
 have hb:=rX l hv.1 h1;have hp:=aBd l h1;rcases aLc l h1 with⟨h0,e⟩ | ⟨hh,H⟩
 ·rw [e,h0];exact⟨fun i hi=>(by cases hi),List.Perm.refl _⟩
 ·have hw:=kY H;unfold F50;rw [cL (show(((BT l leaf).2.length:Nat):Int) > 0 by omega),cond_true];simp only [sB,F89];obtain⟨k1,k2⟩:=aUp (x:=x) (sep:=sep) H ((BT l leaf).2.length - tN 0+1) [] [] (Int.le_refl _) (by simp);refine⟨fun i hi=>?_,?_⟩
  ·rcases k1 i hi with k | k
   ·cases k
   ·exact k
  ·have e:Aw.part (BT l leaf).1 0 (l.length:Int)=(BT l leaf).1:=by rw [←hb.1];exact aSm
   rw [e] at k2;exact k2.trans hp
theorem xZ (D:ZL)(j:Int):(inc D j).length=D.length:=List.length_set
theorem aJr:∀(L D:ZL),(L.foldl inc D).length=D.length
 | [],_=>rfl
 | j::L,D=>by rw [List.foldl_cons,aJr L,xZ]
theorem aDr:∀(L D:ZL) (i:Nat),(∀j∈L,0<=j/\j < D.length)->i < D.length->0<=D.getD i dF->D.getD i dF+L.length<=1048576->(L.foldl inc D).getD i dF=D.getD i dF+(L.count (i:Int):Nat)
 | [],_,_,_,_,_,_=>by simp
 | j::L,D,i,h,hi,h0,h1=>by
  have hj:=h j (List.mem_cons_self);simp only [List.length_cons] at h1;rw [List.foldl_cons,List.count_cons];by_cases e:j=(i:Int)
  ·have e2:(inc D j).getD i dF=D.getD i dF+1:=by
    unfold inc;rw [e,iH,bC1 hi,aG (by omega) (by omega)]
   rw [aDr L (inc D j) i (fun k hk=>by rw [xZ];exact h k (List.mem_cons_of_mem _ hk)) (by rw [xZ];exact hi) (by omega) (by omega),e2,if_pos (by rw [e];exact beq_self_eq_true _)];omega
  ·have e2:(inc D j).getD i dF=D.getD i dF:=by
    unfold inc;rw [bC2 (by omega)]
   rw [aDr L (inc D j) i (fun k hk=>by rw [xZ];exact h k (List.mem_cons_of_mem _ hk)) (by rw [xZ];exact hi) (by omega) (by omega),e2,if_neg (by rw [beq_iff_eq];exact e)];omega
theorem aSn (n i:Nat)(h:i < n):(jS n).count (i:Int)=1:=by
 induction n with|zero=>omega|succ n ih=>?_
 rw [zF,List.count_append];by_cases e:i=n
 ·subst e;rw [List.count_eq_zero.2 (fun hm=>by have:=jK i _ hm;omega)];simp
 ·rw [ih (by omega),List.count_eq_zero.2 (fun hm=>by have:=List.mem_singleton.1 hm;omega)]
theorem aSo {n:Nat} (hn:n<=96) {L:ZL} (h:L.Perm (jS n)):∀i,i < n->(L.foldl inc (List.replicate n 0)).getD i dF=1:=by
 intro i hi;have hl:=h.length_eq;rw [eH] at hl;have hz:(List.replicate n (0:Int)).getD i dF=0:=by
  rw [fS,List.getElem?_replicate];split<;>rfl
 rw [aDr L (List.replicate n 0) i (fun j hj=>by rw [List.length_replicate];exact jK n j (h.mem_iff.1 hj)) (by rw [List.length_replicate];exact hi) (by omega) (by omega),hz,h.count_eq,aSn n i hi];rfl
structure PCH (l:fV) (t:TR) (far pan:ZL):Prop where
 nods:aR1 t
 ord:InR l.length t.1
 inf:InR t.2.length far
 inp:InR l.length pan
 lens:l.length<=96/\t.1.length=l.length/\far.length<=96/\pan.length<=96
theorem aWh {l:fV} {t:TR} {x:Zt} {sep:Int} (h:(aC l t x sep).2.2=0):aAe l t=0/\F49 x=true/\(aC l t x sep)=((F50 t x sep).1,(F50 t x sep).2,0):=by
 unfold aC at h ⊢;cases h0:((nI l (t.1,t.2) sep:Int) != 0)
 case true=>rw [h0,cond_true] at h;exact absurd h (bne_iff_ne.1 h0)
 have hc:=aR5 h0;rw [h0,cond_false] at h;rw [cond_false];cases hs:F49 x
 case false=>rw [hs] at h;simp at h
 exact⟨hc,rfl,rfl⟩
theorem aG9 {l:fV} {t:TR} {x:Zt} {sep:Int} (h:(aC l t x sep).2.2=0):PCH l t (aC l t x sep).1 (aC l t x sep).2.1:=by
 obtain⟨hc,_,e⟩:=aWh h;have hb:=aSi x sep hc;obtain⟨hv,leaf,h1,h2,rfl⟩:=aGr hc;obtain⟨k1,k2⟩:=aG8 hv h1 x sep;rw [e];exact⟨aA8 l hv.1 h1,fun y hy=>jK _ y ((aBd l h1).mem_iff.1 hy),k1,fun y hy=>jK _ y (k2.mem_iff.1 (List.mem_append_right _ hy)),hv.1,(rX l hv.1 h1).1,hb⟩
theorem PCH.node {l:fV} {t:TR} {far pan:ZL} (h:PCH l t far pan) {i:Nat} (hi:i < far.length):(0<=far.getD i dF/\far.getD i dF < (t.2.length:Int))/\0<=(t.2.getD (tN (far.getD i dF)) dF).1/\(t.2.getD (tN (far.getD i dF)) dF).1 < (t.2.getD (tN (far.getD i dF)) dF).2.1/\(t.2.getD (tN (far.getD i dF)) dF).2.1<=t.1.length:=by
 have h1:=h.inf.at hi;exact⟨h1,h.nods.2.2 _ (by omega)⟩
theorem aJs {m:fV} (h:xT m):gL m=0:=by
 have lp:∀(d i n:Nat),d=m.length - i->i<=m.length->d < n->aE (fX m) n (i:Int)=0:=by
  intro d
  induction d with
  | zero =>
   intro i n hd hi hn;obtain⟨n,rfl⟩:∃k,n=k+1:=⟨n - 1,by omega⟩;refine aM ?_;simp only [fX];rw [cV (show ¬((i:Nat):Int) < (m.length:Int) by omega),cond_false]
  | succ d ih =>
   intro i n hd hi hn;obtain⟨n,rfl⟩:∃k,n=k+1:=⟨n - 1,by omega⟩;obtain⟨g1,g2,g3⟩:=h.2 i (by omega);have e:fX m (i:Int)=bif (((F75 (m.getD i dF).1):Int) != 0) then .inr (F75 (m.getD i dF).1) else bif (!(F41 (m.getD i dF).2 (-100) 100)) then .inr 1 else .inl ((i+1:Nat):Int):=by
    simp only [fX,iH];rw [cL (show((i:Nat):Int) < (m.length:Int) by omega),cond_true];rfl
   rw [aT4,g1,qX,cL (show -100<=(m.getD i dF).2/\(m.getD i dF).2<=100 from⟨g2,g3⟩)] at e;rw [aD (e.trans rfl)];exact ih _ _ (by omega) (by omega) (by omega)
 unfold gL;rw [cV (show ¬(m.length:Int) > 96 by have:=h.1;omega),cond_false];exact lp m.length 0 _ (by omega) (by omega) (by omega)
theorem aLj {l:fV} (hv:xT l) {leaf:Int}:∀(n:Nat) (ns:ZL) (fr a:Int),InR l.length ns->∀N∈(GT l leaf n ns fr a).2,bd 64 N.2.2.2.2.1
 | 0,_,_,_,_=>fun N hN=>by cases hN
 | n+1,ns,fr,a,hi=>by
  have hroot:∀lt rt:Int,bd 64 (ndR l ns fr lt rt).2.2.2.2.1:=fun _ _=>⟨rW hv hi 0,rW hv hi 1,rW hv hi 2⟩
  intro N hN;by_cases h0:(ns.length:Int)<=leaf
  ·rw [mM h0] at hN;rw [List.mem_singleton.1 hN];exact hroot _ _
  ·rw [mN h0] at hN;have hsp:(qL l (aV l ns) ns).Perm ns:=List.mergeSort_perm ns _;generalize qL l (aV l ns) ns=s at *;rcases List.mem_cons.1 hN with rfl | hN
   ·exact hroot _ _
   ·rcases List.mem_append.1 hN with hN | hN
    ·exact aLj hv n _ _ _ (fun x hx=>hi x (hsp.mem_iff.1 (List.mem_of_mem_take hx))) N hN
    ·exact aLj hv n _ _ _ (fun x hx=>hi x (hsp.mem_iff.1 (List.mem_of_mem_drop hx))) N hN
theorem aYl {l:fV} (hv:xT l) {leaf:Int} {N:NDE} (hN:N∈(BT l leaf).2):bd 64 N.2.2.2.2.1:=by
 unfold BT at hN;by_cases h0:l.length=0
 ·rw [if_pos h0] at hN;cases hN
 ·rw [if_neg h0] at hN;exact aLj hv _ _ _ _ (jK _) N hN
theorem PCH.part {l:fV} {t:TR} {far pan:ZL} (h:PCH l t far pan)(a b:Int):(Aw.part t.1 a b).length<=1048576:=by
 have h1:=h.nods.1;have h4:(Aw.part t.1 a b).length<=t.1.length:=by unfold Aw.part;simp only [List.length_take,List.length_drop];omega
 omega
theorem aUq {α:Type} (l:List α)(a b:Int):(Aw.part l a b).length<=l.length:=by unfold Aw.part;simp only [List.length_take,List.length_drop];omega
noncomputable def aHa:=bC [1,1,1,1,1,1,0,1] [] (aX Tryz.f9) []
def aHb (a0:cC)(a1:ZL×eB)(a2:Zt)(a3 a4 a5:Int)(v5c:List SV)(v5n:Nat)(v6:Int):LS:=⟨jT 131 [(0,(.s 0 0 a0.length 10)),(5,(iv a5)),(8,(.p 3 0)),(12,(.p 4 0)),(17,(.s 5 0 v5n 2)),(101,(.s 6 0 (aC a0 (a1.1,a1.2) a2 a3).2.1.length 1)),(102,(iv (((aC a0 (a1.1,a1.2) a2 a3).2.1.length:Nat):Int))),(103,(iv v6))],[(.live false true (flat fJ a0)),(.live false true (flat c3 a1.1)),(.live false true (flat fP a1.2)),(.live true false (k3 a2)),(.live true false [(iv 0),(iv 0)]),(.live true true v5c),(.live true true (flat c3 (aC a0 (a1.1,a1.2) a2 a3).2.1))]⟩
def lC (a0:cC)(a1:ZL×eB)(a2:Zt)(a3 a4 a5:Int):(List Zs)×Int->((List Zs)×Int)⊕(Zs×Int) | (v5,v6) => (bif (decide ((v6:Int) < (((aC a0 (a1.1,a1.2) a2 a3).2.1.length:Nat):Int)))then(bif (((dX (Aw.part a0 ((aC a0 (a1.1,a1.2) a2 a3).2.1.getD (tN v6) dF) (W (((aC a0 (a1.1,a1.2) a2 a3).2.1.getD (tN v6) dF)+1))) a2 a5).2:Int) != 0)then(.inr ((0,0),(dX (Aw.part a0 ((aC a0 (a1.1,a1.2) a2 a3).2.1.getD (tN v6) dF) (W (((aC a0 (a1.1,a1.2) a2 a3).2.1.getD (tN v6) dF)+1))) a2 a5).2))else(.inl ((v5++[(dX (Aw.part a0 ((aC a0 (a1.1,a1.2) a2 a3).2.1.getD (tN v6) dF) (W (((aC a0 (a1.1,a1.2) a2 a3).2.1.getD (tN v6) dF)+1))) a2 a5).1]),(v6+1))))else(.inr ((oK v5).1,(oK v5).2)))
noncomputable def aDs:=bC [1,1,1,1,1,0,1] [] (aX Tryz.f9) []
def aHc (a0:cC)(a1:ZL×eB)(a2:Zt)(a3 a4 a5:Int)(v2c:List SV)(v2n:Nat)(v3:Int):LS:=⟨jT 131 [(0,(.s 0 0 a0.length 10)),(4,(iv a4)),(5,(iv a5)),(7,(.p 3 0)),(8,(.p 4 0)),(12,(.p 5 0)),(15,(.s 6 0 (aC a0 (a1.1,a1.2) a2 a3).2.1.length 1)),(17,(.s 7 0 v2n 2)),(50,(.s 8 0 (aC a0 (a1.1,a1.2) a2 a3).1.length 1)),(51,(iv (((aC a0 (a1.1,a1.2) a2 a3).1.length:Nat):Int))),(52,(iv v3))],[(.live false true (flat fJ a0)),(.live false true (flat c3 a1.1)),(.live false true (flat fP a1.2)),(.live true false [(.s 1 0 a1.1.length 1),(.s 2 0 a1.2.length 8)]),(.live true false (k3 a2)),(.live true false [(iv 0),(iv 0)]),(.live true true (flat c3 (aC a0 (a1.1,a1.2) a2 a3).2.1)),(.live true true v2c),(.live true true (flat c3 (aC a0 (a1.1,a1.2) a2 a3).1))]⟩
def lV (a0:cC)(a1:ZL×eB)(a2:Zt)(a3 a4 a5:Int):(List Zs)×Int->((List Zs)×Int)⊕(Zs×Int) | (v2,v3) => (bif (decide ((v3:Int) < (((aC a0 (a1.1,a1.2) a2 a3).1.length:Nat):Int)))then(bif (((jR (dA a0 (Aw.part (a1.1) ((a1.2.getD (tN ((aC a0 (a1.1,a1.2) a2 a3).1.getD (tN v3) dF)) dF).1) ((a1.2.getD (tN ((aC a0 (a1.1,a1.2) a2 a3).1.getD (tN v3) dF)) dF).2.1))) (a1.2.getD (tN ((aC a0 (a1.1,a1.2) a2 a3).1.getD (tN v3) dF)) dF).2.2.2.2.1).2:Int) != 0)then(.inr ((0,0),(jR (dA a0 (Aw.part (a1.1) ((a1.2.getD (tN ((aC a0 (a1.1,a1.2) a2 a3).1.getD (tN v3) dF)) dF).1) ((a1.2.getD (tN ((aC a0 (a1.1,a1.2) a2 a3).1.getD (tN v3) dF)) dF).2.1))) (a1.2.getD (tN ((aC a0 (a1.1,a1.2) a2 a3).1.getD (tN v3) dF)) dF).2.2.2.2.1).2))else(bif (((F26 (jR (dA a0 (Aw.part (a1.1) ((a1.2.getD (tN ((aC a0 (a1.1,a1.2) a2 a3).1.getD (tN v3) dF)) dF).1) ((a1.2.getD (tN ((aC a0 (a1.1,a1.2) a2 a3).1.getD (tN v3) dF)) dF).2.1))) (a1.2.getD (tN ((aC a0 (a1.1,a1.2) a2 a3).1.getD (tN v3) dF)) dF).2.2.2.2.1).1 (a1.2.getD (tN ((aC a0 (a1.1,a1.2) a2 a3).1.getD (tN v3) dF)) dF).2.2.2.2.2 (F27 a2 (a1.2.getD (tN ((aC a0 (a1.1,a1.2) a2 a3).1.getD (tN v3) dF)) dF).2.2.2.2.1) a4).2:Int) != 0)then(.inr ((0,0),(F26 (jR (dA a0 (Aw.part (a1.1) ((a1.2.getD (tN ((aC a0 (a1.1,a1.2) a2 a3).1.getD (tN v3) dF)) dF).1) ((a1.2.getD (tN ((aC a0 (a1.1,a1.2) a2 a3).1.getD (tN v3) dF)) dF).2.1))) (a1.2.getD (tN ((aC a0 (a1.1,a1.2) a2 a3).1.getD (tN v3) dF)) dF).2.2.2.2.1).1 (a1.2.getD (tN ((aC a0 (a1.1,a1.2) a2 a3).1.getD (tN v3) dF)) dF).2.2.2.2.2 (F27 a2 (a1.2.getD (tN ((aC a0 (a1.1,a1.2) a2 a3).1.getD (tN v3) dF)) dF).2.2.2.2.1) a4).2))else(.inl ((v2++[(F26 (jR (dA a0 (Aw.part (a1.1) ((a1.2.getD (tN ((aC a0 (a1.1,a1.2) a2 a3).1.getD (tN v3) dF)) dF).1) ((a1.2.getD (tN ((aC a0 (a1.1,a1.2) a2 a3).1.getD (tN v3) dF)) dF).2.1))) (a1.2.getD (tN ((aC a0 (a1.1,a1.2) a2 a3).1.getD (tN v3) dF)) dF).2.2.2.2.1).1 (a1.2.getD (tN ((aC a0 (a1.1,a1.2) a2 a3).1.getD (tN v3) dF)) dF).2.2.2.2.2 (F27 a2 (a1.2.getD (tN ((aC a0 (a1.1,a1.2) a2 a3).1.getD (tN v3) dF)) dF).2.2.2.2.1) a4).1]),(v3+1)))))else(.inr (aE (lC a0 a1 a2 a3 a4 a5) (tN ((((aC a0 (a1.1,a1.2) a2 a3).2.1.length:Nat):Int) - 0)+1) (v2,0))))
theorem aYm (a0:cC)(a1:ZL×eB)(a2:Zt)(a3 a4 a5:Int)(l0:a0.length<=2^63-1)(l1_1:a1.1.length<=2^63-1)(l1_2:a1.2.length<=2^63-1) {cx:Cx} (hcx:cx.base=3):∀(n:Nat) (v5:List Zs) (v6:Int),(0<=v6)/\((aC a0 (a1.1,a1.2) a2 a3).2.2=0)/\(v5.length<=96+v6)/\(v6<=(aC a0 (a1.1,a1.2) a2 a3).2.1.length)->tN ((((aC a0 (a1.1,a1.2) a2 a3).2.1.length:Nat):Int) - v6) < n->gG Tryz.f9 cx (.t [(.a (k2 (aE (lC a0 a1 a2 a3 a4 a5) n (v5,v6)).1)),(iv (aE (lC a0 a1 a2 a3 a4 a5) n (v5,v6)).2)]) [] [] (.l aHa.1 n::aHa.2) (aHb a0 a1 a2 a3 a4 a5 (flat sN v5) v5.length v6):=by
 intro n
 induction n with|zero=>intro v5 v6 hi hn;exact absurd hn (fW _)|succ n ih=>?_
 intro v5 v6 hi hn;refine aS ?_;have hp:=aG9 (l:=a0) (t:=(a1.1,a1.2)) (x:=a2) (sep:=a3) hi.2.1;have hl96:=hp.lens;cases h0:(decide ((v6:Int) < (((aC a0 (a1.1,a1.2) a2 a3).2.1.length:Nat):Int)))
 case true=>
  have q0:=dE h0
  try have hnd:=hp.inp.at (i:=tN v6) (by have _:=h0;omega)
  try have hw1:=aG (n:=((aC a0 (a1.1,a1.2) a2 a3).2.1.getD (tN v6) dF)+1) (by have _:=h0;omega) (by have _:=h0;omega)
  try have hpq:=cD (l:=a0) (a:=((aC a0 (a1.1,a1.2) a2 a3).2.1.getD (tN v6) dF)) (b:=W (((aC a0 (a1.1,a1.2) a2 a3).2.1.getD (tN v6) dF)+1)) (by have _:=h0;omega)
  let t1:SL:=[.d h0,.i v6 ((aC a0 (a1.1,a1.2) a2 a3).2.1.length),.L aB (aC a0 (a1.1,a1.2) a2 a3).2.1 v6 0 1,.S kE a0 ((aC a0 (a1.1,a1.2) a2 a3).2.1.getD (tN v6) dF) (W (((aC a0 (a1.1,a1.2) a2 a3).2.1.getD (tN v6) dF)+1)) (a0.length),.c [7] (by have q:=(aVq (Aw.part a0 ((aC a0 (a1.1,a1.2) a2 a3).2.1.getD (tN v6) dF) (W (((aC a0 (a1.1,a1.2) a2 a3).2.1.getD (tN v6) dF)+1))) a2 a5 (by omega));(try dsimp only at q);(try rw [show List.length (α:=(Zt×Zt×Zt)×Int) (Aw.part a0 ((aC a0 (a1.1,a1.2) a2 a3).2.1.getD (tN v6) dF) (W (((aC a0 (a1.1,a1.2) a2 a3).2.1.getD (tN v6) dF)+1)))=(tN (W (((aC a0 (a1.1,a1.2) a2 a3).2.1.getD (tN v6) dF)+1)) - tN ((aC a0 (a1.1,a1.2) a2 a3).2.1.getD (tN v6) dF)) from by first | simp;done | omega] at q);exact q)];cases h1:(((dX (Aw.part a0 ((aC a0 (a1.1,a1.2) a2 a3).2.1.getD (tN v6) dF) (W (((aC a0 (a1.1,a1.2) a2 a3).2.1.getD (tN v6) dF)+1))) a2 a5).2:Int) != 0)
  case true=>
   have q1:=bne_iff_ne.1 h1
   try have hnd:=hp.inp.at (i:=tN v6) (by have _:=h0;omega)
   try have hw1:=aG (n:=((aC a0 (a1.1,a1.2) a2 a3).2.1.getD (tN v6) dF)+1) (by have _:=h0;omega) (by have _:=h0;omega)
   try have hpq:=cD (l:=a0) (a:=((aC a0 (a1.1,a1.2) a2 a3).2.1.getD (tN v6) dF)) (b:=W (((aC a0 (a1.1,a1.2) a2 a3).2.1.getD (tN v6) dF)+1)) (by have _:=h0;omega)
   have e:=Eq.refl (lC a0 a1 a2 a3 a4 a5 (v5,v6));(conv at e=>rhs;simp only [lC,h0,h1,aQ]);rw [aJ,e];exact rT (t1++[.d h1]) hcx
  have q1:=bne_eq_false_iff_eq.1 h1
  try have hnd:=hp.inp.at (i:=tN v6) (by have _:=h0;omega)
  try have hw1:=aG (n:=((aC a0 (a1.1,a1.2) a2 a3).2.1.getD (tN v6) dF)+1) (by have _:=h0;omega) (by have _:=h0;omega)
  try have hpq:=cD (l:=a0) (a:=((aC a0 (a1.1,a1.2) a2 a3).2.1.getD (tN v6) dF)) (b:=W (((aC a0 (a1.1,a1.2) a2 a3).2.1.getD (tN v6) dF)+1)) (by have _:=h0;omega)
  have e:=Eq.refl (lC a0 a1 a2 a3 a4 a5 (v5,v6));(conv at e=>rhs;simp only [lC,h0,h1,aQ]);rw [aD e];refine bA n (t1++[.d h1,.p (show((flat sN v5).length=v5.length*2/\v5.length+1<=2 ^ 40/\(v5.length+1)*16<=2 ^ 47) from rS uH (by omega) (by omega))]) [0,5,8,12,17,101,102,103] [3,4,10,6] hcx aHa (aHb a0 a1 a2 a3 a4 a5 (flat sN v5++(k2 (dX (Aw.part a0 ((aC a0 (a1.1,a1.2) a2 a3).2.1.getD (tN v6) dF) (W (((aC a0 (a1.1,a1.2) a2 a3).2.1.getD (tN v6) dF)+1))) a2 a5).1)) (v5.length+1) (W (v6+1))) ?_;have z0:(W (v6+1))=(v6+1):=aG (by omega) (by omega);have z1:(flat sN v5++(k2 (dX (Aw.part a0 ((aC a0 (a1.1,a1.2) a2 a3).2.1.getD (tN v6) dF) (W (((aC a0 (a1.1,a1.2) a2 a3).2.1.getD (tN v6) dF)+1))) a2 a5).1))=_:=(eJ (c:=sN) (l:=v5) (m:=[(dX (Aw.part a0 ((aC a0 (a1.1,a1.2) a2 a3).2.1.getD (tN v6) dF) (W (((aC a0 (a1.1,a1.2) a2 a3).2.1.getD (tN v6) dF)+1))) a2 a5).1])).symm;have z2:(v5.length+1)=_:=uE v5 [(dX (Aw.part a0 ((aC a0 (a1.1,a1.2) a2 a3).2.1.getD (tN v6) dF) (W (((aC a0 (a1.1,a1.2) a2 a3).2.1.getD (tN v6) dF)+1))) a2 a5).1] rfl;rw [z0,z1,z2];exact ih _ _ (by refine⟨?_,?_,?_,?_⟩<;>(try simp only [Ls])<;>first | omega | assumption | simp) (by omega)
 have q0:=dO h0;have e:=Eq.refl (lC a0 a1 a2 a3 a4 a5 (v5,v6));(conv at e=>rhs;simp only [lC,h0,aQ]);rw [aJ,e];exact rT [.d h0,.c [5] (aP7 v5 (by omega))] hcx
theorem aYn (a0:cC)(a1:ZL×eB)(a2:Zt)(a3 a4 a5:Int)(l0:a0.length<=2^63-1)(l1_1:a1.1.length<=2^63-1)(l1_2:a1.2.length<=2^63-1) {cx:Cx} (hcx:cx.base=3):∀(n:Nat) (v2:List Zs) (v3:Int),(0<=v3)/\((aC a0 (a1.1,a1.2) a2 a3).2.2=0)/\(v2.length<=v3)/\(v3<=(aC a0 (a1.1,a1.2) a2 a3).1.length)->tN ((((aC a0 (a1.1,a1.2) a2 a3).1.length:Nat):Int) - v3) < n->gG Tryz.f9 cx (.t [(.a (k2 (aE (lV a0 a1 a2 a3 a4 a5) n (v2,v3)).1)),(iv (aE (lV a0 a1 a2 a3 a4 a5) n (v2,v3)).2)]) [] [] (.l aDs.1 n::aDs.2) (aHc a0 a1 a2 a3 a4 a5 (flat sN v2) v2.length v3):=by
 intro n
 induction n with|zero=>intro v2 v3 hi hn;exact absurd hn (fW _)|succ n ih=>?_
 intro v2 v3 hi hn;refine aS ?_;have hp:=aG9 (l:=a0) (t:=(a1.1,a1.2)) (x:=a2) (sep:=a3) hi.2.1;have hl96:=hp.lens
 try (have _:=h0;dsimp only at hnd)
 have hml:=aA5 a0 (Aw.part (a1.1) (a1.2.getD (tN ((aC a0 (a1.1,a1.2) a2 a3).1.getD (tN v3) dF)) dF).1 (a1.2.getD (tN ((aC a0 (a1.1,a1.2) a2 a3).1.getD (tN v3) dF)) dF).2.1);cases h0:(decide ((v3:Int) < (((aC a0 (a1.1,a1.2) a2 a3).1.length:Nat):Int)))
 case true=>
  have q0:=dE h0
  try have hnd:=hp.node (i:=tN v3) (by have _:=h0;omega)
  try (have _:=h0;dsimp only at hnd)
  try have hpl:=cD (l:=a1.1) (a:=(a1.2.getD (tN ((aC a0 (a1.1,a1.2) a2 a3).1.getD (tN v3) dF)) dF).1) (b:=(a1.2.getD (tN ((aC a0 (a1.1,a1.2) a2 a3).1.getD (tN v3) dF)) dF).2.1) (by have _:=h0;omega)
  let t1:SL:=[.d h0,.i v3 ((aC a0 (a1.1,a1.2) a2 a3).1.length),.L aB (aC a0 (a1.1,a1.2) a2 a3).1 v3 0 1,.i ((aC a0 (a1.1,a1.2) a2 a3).1.getD (tN v3) dF) (a1.2.length),.L hU a1.2 ((aC a0 (a1.1,a1.2) a2 a3).1.getD (tN v3) dF) 0 8,.S aB (a1.1) ((a1.2.getD (tN ((aC a0 (a1.1,a1.2) a2 a3).1.getD (tN v3) dF)) dF).1) ((a1.2.getD (tN ((aC a0 (a1.1,a1.2) a2 a3).1.getD (tN v3) dF)) dF).2.1) (a1.1.length),.c [0,10] (by have q:=(aNb a0 (Aw.part (a1.1) ((a1.2.getD (tN ((aC a0 (a1.1,a1.2) a2 a3).1.getD (tN v3) dF)) dF).1) ((a1.2.getD (tN ((aC a0 (a1.1,a1.2) a2 a3).1.getD (tN v3) dF)) dF).2.1)) (by omega) (by omega) (hp.ord.part _ _) (hp.part _ _));(try dsimp only at q);(try rw [show List.length (α:=Int) (Aw.part (a1.1) ((a1.2.getD (tN ((aC a0 (a1.1,a1.2) a2 a3).1.getD (tN v3) dF)) dF).1) ((a1.2.getD (tN ((aC a0 (a1.1,a1.2) a2 a3).1.getD (tN v3) dF)) dF).2.1))=(tN (a1.2.getD (tN ((aC a0 (a1.1,a1.2) a2 a3).1.getD (tN v3) dF)) dF).2.1 - tN (a1.2.getD (tN ((aC a0 (a1.1,a1.2) a2 a3).1.getD (tN v3) dF)) dF).1) from by first | simp;done | omega] at q);exact q),.c [11] (bAy (dA a0 (Aw.part (a1.1) ((a1.2.getD (tN ((aC a0 (a1.1,a1.2) a2 a3).1.getD (tN v3) dF)) dF).1) ((a1.2.getD (tN ((aC a0 (a1.1,a1.2) a2 a3).1.getD (tN v3) dF)) dF).2.1))) (a1.2.getD (tN ((aC a0 (a1.1,a1.2) a2 a3).1.getD (tN v3) dF)) dF).2.2.2.2.1 (by omega))];cases h1:(((jR (dA a0 (Aw.part (a1.1) ((a1.2.getD (tN ((aC a0 (a1.1,a1.2) a2 a3).1.getD (tN v3) dF)) dF).1) ((a1.2.getD (tN ((aC a0 (a1.1,a1.2) a2 a3).1.getD (tN v3) dF)) dF).2.1))) (a1.2.getD (tN ((aC a0 (a1.1,a1.2) a2 a3).1.getD (tN v3) dF)) dF).2.2.2.2.1).2:Int) != 0)
  case true=>
   have q1:=bne_iff_ne.1 h1
   try have hnd:=hp.node (i:=tN v3) (by have _:=h0;omega)
   try (have _:=h0;dsimp only at hnd)
   try have hpl:=cD (l:=a1.1) (a:=(a1.2.getD (tN ((aC a0 (a1.1,a1.2) a2 a3).1.getD (tN v3) dF)) dF).1) (b:=(a1.2.getD (tN ((aC a0 (a1.1,a1.2) a2 a3).1.getD (tN v3) dF)) dF).2.1) (by have _:=h0;omega)
   have e:=Eq.refl (lV a0 a1 a2 a3 a4 a5 (v2,v3));(conv at e=>rhs;simp only [lV,h0,h1,aQ]);rw [aJ,e];exact rT (t1++[.d h1]) hcx
  have q1:=bne_eq_false_iff_eq.1 h1
  try have hnd:=hp.node (i:=tN v3) (by have _:=h0;omega)
  try (have _:=h0;dsimp only at hnd)
  try have hpl:=cD (l:=a1.1) (a:=(a1.2.getD (tN ((aC a0 (a1.1,a1.2) a2 a3).1.getD (tN v3) dF)) dF).1) (b:=(a1.2.getD (tN ((aC a0 (a1.1,a1.2) a2 a3).1.getD (tN v3) dF)) dF).2.1) (by have _:=h0;omega)
  let t2:SL:=t1++[.d h1,.c [] (C27 a2 (a1.2.getD (tN ((aC a0 (a1.1,a1.2) a2 a3).1.getD (tN v3) dF)) dF).2.2.2.2.1),.c [] (C26 (jR (dA a0 (Aw.part (a1.1) ((a1.2.getD (tN ((aC a0 (a1.1,a1.2) a2 a3).1.getD (tN v3) dF)) dF).1) ((a1.2.getD (tN ((aC a0 (a1.1,a1.2) a2 a3).1.getD (tN v3) dF)) dF).2.1))) (a1.2.getD (tN ((aC a0 (a1.1,a1.2) a2 a3).1.getD (tN v3) dF)) dF).2.2.2.2.1).1 (a1.2.getD (tN ((aC a0 (a1.1,a1.2) a2 a3).1.getD (tN v3) dF)) dF).2.2.2.2.2 (F27 a2 (a1.2.getD (tN ((aC a0 (a1.1,a1.2) a2 a3).1.getD (tN v3) dF)) dF).2.2.2.2.1) a4)];cases h2:(((F26 (jR (dA a0 (Aw.part (a1.1) ((a1.2.getD (tN ((aC a0 (a1.1,a1.2) a2 a3).1.getD (tN v3) dF)) dF).1) ((a1.2.getD (tN ((aC a0 (a1.1,a1.2) a2 a3).1.getD (tN v3) dF)) dF).2.1))) (a1.2.getD (tN ((aC a0 (a1.1,a1.2) a2 a3).1.getD (tN v3) dF)) dF).2.2.2.2.1).1 (a1.2.getD (tN ((aC a0 (a1.1,a1.2) a2 a3).1.getD (tN v3) dF)) dF).2.2.2.2.2 (F27 a2 (a1.2.getD (tN ((aC a0 (a1.1,a1.2) a2 a3).1.getD (tN v3) dF)) dF).2.2.2.2.1) a4).2:Int) != 0)
  case true=>
   have q2:=bne_iff_ne.1 h2
   try have hnd:=hp.node (i:=tN v3) (by have _:=h0;omega)
   try (have _:=h0;dsimp only at hnd)
   try have hpl:=cD (l:=a1.1) (a:=(a1.2.getD (tN ((aC a0 (a1.1,a1.2) a2 a3).1.getD (tN v3) dF)) dF).1) (b:=(a1.2.getD (tN ((aC a0 (a1.1,a1.2) a2 a3).1.getD (tN v3) dF)) dF).2.1) (by have _:=h0;omega)
   have e:=Eq.refl (lV a0 a1 a2 a3 a4 a5 (v2,v3));(conv at e=>rhs;simp only [lV,h0,h1,h2,aQ]);rw [aJ,e];exact rT (t2++[.d h2]) hcx
  have q2:=bne_eq_false_iff_eq.1 h2
  try have hnd:=hp.node (i:=tN v3) (by have _:=h0;omega)
  try (have _:=h0;dsimp only at hnd)
  try have hpl:=cD (l:=a1.1) (a:=(a1.2.getD (tN ((aC a0 (a1.1,a1.2) a2 a3).1.getD (tN v3) dF)) dF).1) (b:=(a1.2.getD (tN ((aC a0 (a1.1,a1.2) a2 a3).1.getD (tN v3) dF)) dF).2.1) (by have _:=h0;omega)
  have e:=Eq.refl (lV a0 a1 a2 a3 a4 a5 (v2,v3));(conv at e=>rhs;simp only [lV,h0,h1,h2,aQ]);rw [aD e];refine bA n (t2++[.d h2,.p (show((flat sN v2).length=v2.length*2/\v2.length+1<=2 ^ 40/\(v2.length+1)*16<=2 ^ 47) from rS uH (by omega) (by omega))]) [0,4,5,7,8,12,15,17,50,51,52] [3,4,5,6,15,8] hcx aDs (aHc a0 a1 a2 a3 a4 a5 (flat sN v2++[(iv (F26 (jR (dA a0 (Aw.part (a1.1) ((a1.2.getD (tN ((aC a0 (a1.1,a1.2) a2 a3).1.getD (tN v3) dF)) dF).1) ((a1.2.getD (tN ((aC a0 (a1.1,a1.2) a2 a3).1.getD (tN v3) dF)) dF).2.1))) (a1.2.getD (tN ((aC a0 (a1.1,a1.2) a2 a3).1.getD (tN v3) dF)) dF).2.2.2.2.1).1 (a1.2.getD (tN ((aC a0 (a1.1,a1.2) a2 a3).1.getD (tN v3) dF)) dF).2.2.2.2.2 (F27 a2 (a1.2.getD (tN ((aC a0 (a1.1,a1.2) a2 a3).1.getD (tN v3) dF)) dF).2.2.2.2.1) a4).1.1),(iv (F26 (jR (dA a0 (Aw.part (a1.1) ((a1.2.getD (tN ((aC a0 (a1.1,a1.2) a2 a3).1.getD (tN v3) dF)) dF).1) ((a1.2.getD (tN ((aC a0 (a1.1,a1.2) a2 a3).1.getD (tN v3) dF)) dF).2.1))) (a1.2.getD (tN ((aC a0 (a1.1,a1.2) a2 a3).1.getD (tN v3) dF)) dF).2.2.2.2.1).1 (a1.2.getD (tN ((aC a0 (a1.1,a1.2) a2 a3).1.getD (tN v3) dF)) dF).2.2.2.2.2 (F27 a2 (a1.2.getD (tN ((aC a0 (a1.1,a1.2) a2 a3).1.getD (tN v3) dF)) dF).2.2.2.2.1) a4).1.2)]) (v2.length+1) (W (v3+1))) ?_;have z0:(W (v3+1))=(v3+1):=aG (by omega) (by omega);have z1:(flat sN v2++[(iv (F26 (jR (dA a0 (Aw.part (a1.1) ((a1.2.getD (tN ((aC a0 (a1.1,a1.2) a2 a3).1.getD (tN v3) dF)) dF).1) ((a1.2.getD (tN ((aC a0 (a1.1,a1.2) a2 a3).1.getD (tN v3) dF)) dF).2.1))) (a1.2.getD (tN ((aC a0 (a1.1,a1.2) a2 a3).1.getD (tN v3) dF)) dF).2.2.2.2.1).1 (a1.2.getD (tN ((aC a0 (a1.1,a1.2) a2 a3).1.getD (tN v3) dF)) dF).2.2.2.2.2 (F27 a2 (a1.2.getD (tN ((aC a0 (a1.1,a1.2) a2 a3).1.getD (tN v3) dF)) dF).2.2.2.2.1) a4).1.1),(iv (F26 (jR (dA a0 (Aw.part (a1.1) ((a1.2.getD (tN ((aC a0 (a1.1,a1.2) a2 a3).1.getD (tN v3) dF)) dF).1) ((a1.2.getD (tN ((aC a0 (a1.1,a1.2) a2 a3).1.getD (tN v3) dF)) dF).2.1))) (a1.2.getD (tN ((aC a0 (a1.1,a1.2) a2 a3).1.getD (tN v3) dF)) dF).2.2.2.2.1).1 (a1.2.getD (tN ((aC a0 (a1.1,a1.2) a2 a3).1.getD (tN v3) dF)) dF).2.2.2.2.2 (F27 a2 (a1.2.getD (tN ((aC a0 (a1.1,a1.2) a2 a3).1.getD (tN v3) dF)) dF).2.2.2.2.1) a4).1.2)])=_:=(eJ (c:=sN) (l:=v2) (m:=[(F26 (jR (dA a0 (Aw.part (a1.1) ((a1.2.getD (tN ((aC a0 (a1.1,a1.2) a2 a3).1.getD (tN v3) dF)) dF).1) ((a1.2.getD (tN ((aC a0 (a1.1,a1.2) a2 a3).1.getD (tN v3) dF)) dF).2.1))) (a1.2.getD (tN ((aC a0 (a1.1,a1.2) a2 a3).1.getD (tN v3) dF)) dF).2.2.2.2.1).1 (a1.2.getD (tN ((aC a0 (a1.1,a1.2) a2 a3).1.getD (tN v3) dF)) dF).2.2.2.2.2 (F27 a2 (a1.2.getD (tN ((aC a0 (a1.1,a1.2) a2 a3).1.getD (tN v3) dF)) dF).2.2.2.2.1) a4).1])).symm;have z2:(v2.length+1)=_:=uE v2 [(F26 (jR (dA a0 (Aw.part (a1.1) ((a1.2.getD (tN ((aC a0 (a1.1,a1.2) a2 a3).1.getD (tN v3) dF)) dF).1) ((a1.2.getD (tN ((aC a0 (a1.1,a1.2) a2 a3).1.getD (tN v3) dF)) dF).2.1))) (a1.2.getD (tN ((aC a0 (a1.1,a1.2) a2 a3).1.getD (tN v3) dF)) dF).2.2.2.2.1).1 (a1.2.getD (tN ((aC a0 (a1.1,a1.2) a2 a3).1.getD (tN v3) dF)) dF).2.2.2.2.2 (F27 a2 (a1.2.getD (tN ((aC a0 (a1.1,a1.2) a2 a3).1.getD (tN v3) dF)) dF).2.2.2.2.1) a4).1] rfl;rw [z0,z1,z2];exact ih _ _ (by refine⟨?_,?_,?_,?_⟩<;>(try simp only [Ls])<;>first | omega | assumption | simp) (by omega)
 have q0:=dO h0
 try (have _:=h0;dsimp only at hnd)
 have e:=Eq.refl (lV a0 a1 a2 a3 a4 a5 (v2,v3));(conv at e=>rhs;simp only [lV,h0,aQ]);rw [aJ,e];refine eN [.d h0] [0,5,8,12,17,101,102,103] [4,5,7,6] hcx aHa (aHb a0 a1 a2 a3 a4 a5 (flat sN v2) (v2.length) 0) (tN ((((aC a0 (a1.1,a1.2) a2 a3).2.1.length:Nat):Int) - 0)+1) ?_;exact aYm a0 a1 a2 a3 a4 a5 l0 l1_1 l1_2 hcx (tN ((((aC a0 (a1.1,a1.2) a2 a3).2.1.length:Nat):Int) - 0)+1) v2 0 (by refine⟨?_,?_,?_,?_⟩<;>(try simp only [Ls])<;>first | omega | assumption | simp) (by omega)
def uT (a0:cC)(a1:ZL×eB)(a2:Zt)(a3 a4 a5:Int):Zs×Int := (bif (((aC a0 (a1.1,a1.2) a2 a3).2.2:Int) != 0)then((0,0),(aC a0 (a1.1,a1.2) a2 a3).2.2)else(bif (!(vI a4 0 2))then((0,0),1)else(bif (!(vI a5 0 3))then((0,0),1)else(aE (lV a0 a1 a2 a3 a4 a5) (tN ((((aC a0 (a1.1,a1.2) a2 a3).1.length:Nat):Int) - 0)+1) (([]:List Zs),0)))))
theorem bDm (a0:cC)(a1:ZL×eB)(a2:Zt)(a3 a4 a5:Int)(l0:a0.length<=2^63-1)(l1_1:a1.1.length<=2^63-1)(l1_2:a1.2.length<=2^63-1):Con Tryz.prog 9 [(.s 0 0 a0.length 10),(.a [(.s 1 0 a1.1.length 1),(.s 2 0 a1.2.length 8)]),(.a (k3 a2)),(iv a3),(iv a4),(iv a5)] [(.live false true (flat fJ a0)),(.live false true (flat c3 a1.1)),(.live false true (flat fP a1.2))] (.t [(.a (k2 (uT a0 a1 a2 a3 a4 a5).1)),(iv (uT a0 a1 a2 a3 a4 a5).2)]) []:=by
 refine cS Tryz.func9 fun cx hcx=>?_
 let t0:SL:=[.c [0,1,2] (aV8 a0 (a1.1,a1.2) a2 a3 (by omega) (by omega) (by omega))];cases h0:(((aC a0 (a1.1,a1.2) a2 a3).2.2:Int) != 0)
 case true=>have q0:=bne_iff_ne.1 h0;have e:=Eq.refl (uT a0 a1 a2 a3 a4 a5);(conv at e=>rhs;simp only [uT,h0,aQ]);rw [e];exact rT (t0++[.d h0]) hcx
 have q0:=bne_eq_false_iff_eq.1 h0;let t1:SL:=t0++[.d h0,.c [] (C23 a4 0 2)];cases h1:(!(vI a4 0 2))
 case true=>have e:=Eq.refl (uT a0 a1 a2 a3 a4 a5);(conv at e=>rhs;simp only [uT,h0,h1,aQ]);rw [e];exact rT (t1++[.d h1]) hcx
 let t2:SL:=t1++[.d h1,.c [] (C23 a5 0 3)];cases h2:(!(vI a5 0 3))
 case true=>have e:=Eq.refl (uT a0 a1 a2 a3 a4 a5);(conv at e=>rhs;simp only [uT,h0,h1,h2,aQ]);rw [e];exact rT (t2++[.d h2]) hcx
 have e:=Eq.refl (uT a0 a1 a2 a3 a4 a5);(conv at e=>rhs;simp only [uT,h0,h1,h2,aQ]);rw [e];refine en (t2++[.d h2]) [.slot 17 2] [0,4,5,7,8,12,15,17,50,51,52] [3,4,5,7,8,6] hcx aDs.1 aDs.2 (aHc a0 a1 a2 a3 a4 a5 (flat sN ([]:List Zs)) 0 0) (tN ((((aC a0 (a1.1,a1.2) a2 a3).1.length:Nat):Int) - 0)+1) (by kernel_rfl) ?_;exact aYn a0 a1 a2 a3 a4 a5 l0 l1_1 l1_2 hcx (tN ((((aC a0 (a1.1,a1.2) a2 a3).1.length:Nat):Int) - 0)+1) ([]:List Zs) 0 (by refine⟨?_,?_,?_,?_⟩<;>(try simp only [Ls])<;>first | omega | assumption | simp) (by omega)
namespace MxT
theorem qmul {a b:Rat} (h:0<=a)(k:0<=b):0<=a*b:=Rat.mul_nonneg h k
theorem fE {a b c:Rat} (h:a<=b)(k:0<=c):a*c<=b*c:=Rat.mul_le_mul_of_nonneg_right h k
theorem rJ (a:Rat):0<=a*a:=by
 rcases Rat.le_total (a:=0) (b:=a) with h | h
 ·exact qmul h h
 ·have:=qmul (a:=-a) (b:=-a) (by grind) (by grind);grind
theorem aHd {a b:Rat} (hb:0<=b)(h:a*a<=b*b):a<=b/\-b<=a:=by
 constructor
 ·rcases Rat.le_total (a:=a) (b:=b) with k | k
  ·exact k
  ·by_cases e:a=b
   ·grind
   ·have h1:0 < a - b:=by grind
    have h2:=Rat.mul_pos h1 (show 0 < a+b by grind);grind
 ·rcases Rat.le_total (a:=-b) (b:=a) with k | k
  ·exact k
  ·by_cases e:a=-b
   ·grind
   ·have h1:0 < -a - b:=by grind
    have h2:=Rat.mul_pos h1 (show 0 < -a+b by grind);grind
section
variable {w t g : Rat}
theorem aNt (ht:0<=t)(h1:1 - w<=g)(h2:2*g<=1 - w*w+t*t):1 - w<=t/\w - 1<=t:=by
 have h3:(1 - w)*(1 - w)<=t*t:=by grind
 have:=aHd ht h3;grind
theorem bBa (ht:0<=t)(h1:1 - w<=g)(h2:2*g<=1 - w*w+t*t)(ht1:t<=1)(hw:0 < w):(1 - w)*(1 - t)<=t*w/\(w - 1)*(1 - t)<=t*w:=by
 obtain⟨a,b⟩:=aNt ht h1 h2;have e1:=fE a (show 0<=1 - t by grind);have e2:=fE b (show 0<=1 - t by grind);have e3:=fE (show 1 - t<=w by grind) ht;exact⟨by grind,by grind⟩
theorem bBb (ht:0<=t)(h1:1 - w<=g)(h2:2*g<=1 - w*w+t*t)(ht1:t<=1)(hw:0 < w):(1 - (1+g)*w)*(1 - t)<=t*t*w/\((1+g)*w - 1)*(1 - t)<=t*t*w:=by
 obtain⟨a,b⟩:=aNt ht h1 h2;have e1:=fE h1 (show 0<=w by grind);have e2:(1 - w)*(1 - w)<=t*t:=by grind
 have e3:=fE (show 1 - (1+g)*w<=t*t by grind) (show 0<=1 - t by grind);have e4:=fE (show 1 - t<=w by grind) (rJ t);have f1:=fE h2 (show 0<=w by grind);have f2:=qmul (rJ (w - 1)) (show 0<=w+2 by grind);have f3:2*((1+g)*w - 1)<=w*(t*t):=by grind
 have f4:=fE f3 (show 0<=1 - t by grind);have f5:=qmul (qmul ht (rJ t)) (show 0<=w by grind);have f6:=qmul (rJ t) (show 0<=w by grind);exact⟨by grind,by grind⟩
theorem aYo (ht:0<=t)(h1:1 - w<=g)(h2:2*g<=1 - w*w+t*t)(ht1:t<=1)(hw:0 < w):(2 - (3+3*g*g - w*w)*w)*(1 - t)<=2*(t*t*t)*w:=by
 obtain⟨a,b⟩:=aNt ht h1 h2;have ht3:=qmul (rJ t) ht;rcases Rat.le_total (a:=w) (b:=1) with hc | hc
 ·have e1:(1 - w)*(1 - w)<=g*g:=by
   have:=fE h1 (show 0<=1 - w by grind);have:=fE h1 (show 0<=g by grind);grind
  have e2:=fE e1 (show 0<=w by grind);have e3:(1 - w)*(1 - w)*(1 - w)<=t*t*t:=by
   have k1:(1 - w)*(1 - w)<=t*t:=by grind
   have k2:=fE k1 (show 0<=1 - w by grind);have k3:=fE a (rJ t);grind
  have e4:2 - (3+3*g*g - w*w)*w<=2*(t*t*t):=by grind
  have e5:=fE e4 (show 0<=1 - t by grind);have e6:=fE (show 1 - t<=w by grind) ht3;grind
 ·have key:2 - (3+3*g*g - w*w)*w<=2*(t*t*t)*w:=by
   obtain⟨z,rfl⟩:∃z,w=1+z:=⟨w - 1,by grind⟩;have hz:0<=z:=by grind
   have hzt:z<=t:=by grind
   rcases Rat.le_total (a:=z*(2+z)) (b:=t*t) with hd | hd
   ·have k0:=rJ z;have k1:2*z<=t*t:=by grind
    have k2:=fE k1 hz;have k3:=fE k1 (rJ t);have k4:=fE k1 (qmul hz hz);have k5:4*(z*z)<=t*t*(t*t):=by grind
    have k6:=fE ht1 ht3;have k7:=qmul (rJ g) (show 0<=1+z by grind);have k8:4*(z*z)<=t*t*t:=by grind
    have k9:=fE k8 (show 0<=3+z by grind);have k10:=qmul ht3 hz;grind
   ·have k1:(z*(2+z) - t*t)*(z*(2+z) - t*t)<=4*(g*g):=by
     have m1:z*(2+z) - t*t<=- (2*g):=by grind
     have m2:=fE m1 (show 0<=z*(2+z) - t*t by grind);have m3:=fE m1 (show 0<=-(2*g) by grind);grind
    have k2:=fE k1 (show 0<=1+z by grind);have k3:=qmul (rJ (t - z)) (show 0<=2*t+z by grind);have k4:=qmul (rJ z) hz;have k5:=rJ (t*t - z*z);have k6:0<=8*(t*t*t) - 12*(z*(t*t))+12*(z*z*z)+3*((t*t - z*z)*(t*t - z*z)):=by grind
    have k7:=qmul k6 (show 0<=1+z by grind);grind
  have e1:=qmul (qmul ht3 (show 0<=w by grind)) ht;rcases Rat.le_total (a:=0) (b:=2 - (3+3*g*g - w*w)*w) with hs | hs
  ·have:=fE (show 1 - t<=1 by grind) hs;grind
  ·have:=qmul (show 0<=-(2 - (3+3*g*g - w*w)*w) by grind) (show 0<=1 - t by grind);have:=qmul ht3 (show 0<=w by grind);grind
theorem aYp (ht:0<=t)(h1:1 - w<=g)(h2:2*g<=1 - w*w+t*t)(ht1:t<=1)(hw:0 < w):((3+3*g*g - w*w)*w - 2)*(1 - t)<=2*(t*t*t)*w:=by
 obtain⟨a,b⟩:=aNt ht h1 h2;have ht3:=qmul (rJ t) ht;rcases Rat.le_total (a:=w) (b:=1) with hc | hc
 ·obtain⟨y,rfl⟩:∃y,w=1 - y:=⟨1 - w,by grind⟩;have hy:0<=y:=by grind
  have hyt:y<=t:=by grind
  have hg:0<=g:=by grind
  have k1:4*(g*g)<=(2*y+(t*t - y*y))*(2*y+(t*t - y*y)):=by
   have m1:2*g<=2*y+(t*t - y*y):=by grind
   have m2:=fE m1 (show 0<=2*g by grind);have m3:=fE m1 (show 0<=2*y+(t*t - y*y) by grind);grind
  have k2:=fE k1 (show 0<=1 - y by grind);have k3:3*((t*t - y*y)*(t*t - y*y))<=4*(2*(t*t*t) - 3*(t*t*y)+y*y*y):=by
   have m1:0<=4*(2*t+y) - 3*((t+y)*(t+y)):=by
    have:=fE (show t+y<=2 by grind) (show 0<=t+y by grind);grind
   have:=qmul (rJ (t - y)) m1;grind
  have hD:0<=t*t - y*y:=by
   have:=fE hyt hy;have:=fE hyt ht;grind
  have k4:=qmul (qmul hy hy) hy;have k5:=qmul (rJ y) hD;have k6:=qmul hy (rJ (t*t - y*y));have key:(3+3*g*g - (1 - y)*(1 - y))*(1 - y) - 2<=2*(t*t*t):=by grind
  rcases Rat.le_total (a:=0) (b:=(3+3*g*g - (1 - y)*(1 - y))*(1 - y) - 2) with hs | hs
  ·have m1:=fE (show 1 - t<=1 - y by grind) hs;have m2:=fE key (show 0<=1 - y by grind);grind
  ·have:=qmul (show 0<=-((3+3*g*g - (1 - y)*(1 - y))*(1 - y) - 2) by grind) (show 0<=1 - t by grind);have:=qmul ht3 (show 0<=1 - y by grind);grind
 ·have key:(3+3*g*g - w*w)*w - 2<=2*(t*t*t)*w:=by
   obtain⟨z,rfl⟩:∃z,w=1+z:=⟨w - 1,by grind⟩;have hz:0<=z:=by grind
   have hzt:z<=t:=by grind
   have hzz:z*z*z<=t*t*t:=by
    have m1:=fE hzt hz;have m2:=fE hzt ht;have m3:=fE (show z*z<=t*t by grind) hz;have m4:=fE hzt (rJ t);grind
   rcases Rat.le_total (a:=g) (b:=0) with hg | hg
   ·have m1:g*g<=z*z:=by
     have k1:-g<=z:=by grind
     have k2:=fE k1 (show 0<=-g by grind);have k3:=fE k1 hz;grind
    have m2:=fE m1 (show 0<=1+z by grind);have m3:=qmul ht3 hz;grind
   ·have m0:2*g<=t*t:=by
     have:=rJ z;grind
    have m1:4*(g*g)<=t*t*t:=by
     have k2:=fE m0 (show 0<=2*g by grind);have k3:=fE m0 (rJ t);have k4:=fE ht1 ht3;grind
    have m2:=fE m1 (show 0<=1+z by grind);have m3:=qmul (rJ z) (show 0<=3+z by grind);have m4:=qmul ht3 hz;grind
  rcases Rat.le_total (a:=0) (b:=(3+3*g*g - w*w)*w - 2) with hs | hs
  ·have:=fE (show 1 - t<=1 by grind) hs;grind
  ·have:=qmul (show 0<=-((3+3*g*g - w*w)*w - 2) by grind) (show 0<=1 - t by grind);have:=qmul ht3 (show 0<=w by grind);grind
end
def Tq (o:Int)(g mu:Rat):Rat:=if o=0 then 1 else if o=1 then 1+g else(3+3*g*g - mu) / 2
def pwF (o:Int)(t:Rat):Rat:=if o=0 then t else if o=1 then t*t else t*t*t
theorem ser {w t g:Rat} (o:Int)(ht:0<=t)(h1:1 - w<=g)(h2:2*g<=1 - w*w+t*t)(ht1:t<=1)(hw:0 < w):(1 - Tq o g (w*w)*w)*(1 - t)<=pwF o t*w/\(Tq o g (w*w)*w - 1)*(1 - t)<=pwF o t*w:=by
 unfold Tq pwF;split
 ·have:=bBa ht h1 h2 ht1 hw;grind
 ·split
  ·have:=bBb ht h1 h2 ht1 hw;grind
  ·have a:=aYo ht h1 h2 ht1 hw;have b:=aYp ht h1 h2 ht1 hw;grind
theorem bBc {t e:Rat} (o:Int)(ht:0<=t)(ht1:t<=1)(he:0<=e)(he1:e<=1):pwF o (t+e)<=pwF o t+7*e:=by
 have a1:=fE ht1 he;have a2:=fE he1 he;have a3:=fE ht1 (qmul ht he);have a4:=fE ht1 (qmul he he);have a5:=fE he1 (qmul he he);unfold pwF;split
 ·grind
 ·split<;>grind
theorem bBd {t:Rat} (o:Int)(ht:0<=t):0<=pwF o t:=by
 have:=qmul (rJ t) ht;have:=rJ t;unfold pwF;split
 ·exact ht
 ·split<;>grind
theorem aYq {t:Rat} (o:Int)(ht:0<=t)(ht1:t<=1):pwF o t<=1:=by
 have a1:=fE ht1 ht;have a2:=fE ht1 (rJ t);unfold pwF;split
 ·exact ht1
 ·split<;>grind
theorem aSp {a:Rat} (h:a≠0):a*a⁻¹=1:=Rat.mul_inv_cancel a h
theorem wJ {a b c:Rat} (h:a*c<=b*c)(hc:0 < c):a<=b:=by
 rcases Rat.le_total (a:=a) (b:=b) with k | k
 ·exact k
 ·by_cases e:a=b
  ·grind
  ·have:=Rat.mul_pos (show 0 < a - b by grind) hc;grind
theorem aHe {a b g:Rat} (hb:b≠0)(h:g=a / b):g*b=a:=by
 have:=aSp hb;rw [h,Rat.div_def];grind
section
variable {n m mu x i w q s D : Rat}
theorem bDn (hn:0 < n)(hx:0 < x)(mn:mu*n=m)(wx:w*x=i)(h1:x*x*m<=1)(h2:1<=i*i*n):mu<=w*w:=by
 refine wJ (c:=n*(x*x)) ?_ (Rat.mul_pos hn (Rat.mul_pos hx hx));have a2:w*w*(n*(x*x))=i*i*n:=by rw [←wx];grind
 have a3:mu*(n*(x*x))=x*x*m:=by rw [←mn];grind
 rw [a2,a3];grind
theorem bDo (hn:1<=n)(hm:0<=m)(hx:0 < x)(mn:mu*n=m)(wx:w*x=i)(hs:0<=s)(xb:1 - 768*m*s<=x*x*m)(ib:i*i*n<=1+3*n*s)(xh:1<=2*(x*x*m))(hD:D=40*(m+n))(hq:q*q=D*D*s):w*w<=mu+q*q:=by
 refine wJ (c:=n*(x*x)) ?_ (Rat.mul_pos (by grind) (Rat.mul_pos hx hx));have a2:w*w*(n*(x*x))=i*i*n:=by rw [←wx];grind
 have a3:(mu+q*q)*(n*(x*x))=x*x*m+D*D*n*(s*(x*x)):=by rw [hq,←mn];grind
 rw [a2,a3];have a5:6*(m*n)+1536*(m*m)<=D*D*n:=by
  have b1:=fE hn (rJ D);have b2:=qmul hm (show 0<=n by grind);have b3:=rJ m;have b4:=rJ n;rw [hD] at b1 ⊢;grind
 have a6:=fE a5 (qmul hs (rJ x));have a7:=fE xh (qmul hs (show 0<=3*n+768*m by grind));clear a2 a3 a5 hq hD wx mn;grind
end
section
variable {n m c b mu g w t q A R : Rat}
theorem bBe (hn:0 < n)(e:m=n - 2*c+b)(cs:c*c<=n*b)(mn:mu*n=m)(gn:g*n=c)(hw:0<=w)(lo:mu<=w*w):1 - w<=g:=by
 have d2:(1 - g)*(1 - g)<=mu:=by
  refine wJ (c:=n*n) ?_ (Rat.mul_pos hn hn);have a2:(1 - g)*(1 - g)*(n*n)=n*n - 2*(n*c)+c*c:=by rw [←gn];grind
  have a3:mu*(n*n)=n*m:=by rw [←mn];grind
  rw [a2,a3,e];grind
 have:=(aHd hw (Rat.le_trans d2 lo)).1;grind
theorem bBf (hn:0 < n)(hR:0 < R)(e:m=n - 2*c+b)(mn:mu*n=m)(gn:g*n=c)(tR:t*R=A)(hb:b*(R*R)<=n*(A*A))(ht:0<=t)(hq:0<=q)(hi:w*w<=mu+q*q):2*g<=1 - w*w+(t+q)*(t+q):=by
 have d1:2*g<=1 - mu+t*t:=by
  refine wJ (c:=n*(R*R)) ?_ (Rat.mul_pos hn (Rat.mul_pos hR hR));have a2:t*t*(n*(R*R))=n*(A*A):=by rw [←tR];grind
  have a3:mu*(n*(R*R))=(n - 2*c+b)*(R*R):=by rw [←e,←mn];grind
  have a4:g*(n*(R*R))=c*(R*R):=by rw [←gn];grind
  have a5:(2*g)*(n*(R*R))=2*(c*(R*R)):=by rw [←a4];grind
  have a6:(1 - mu+t*t)*(n*(R*R))=n*(R*R) - (n - 2*c+b)*(R*R)+n*(A*A):=by rw [←a2,←a3];grind
  rw [a5,a6];grind
 have:=qmul ht hq;grind
end
theorem aYr {n m x p s η:Rat} (hn:1<=n)(hm:1<=256*m)(s0:0<=s)(s1:s<=η)(h1:η<=1)(hC:1536*m*η<=1)(x0:0<=x)(xm:x*x*m<=1)(xm1:1<=(x+16*s)*(x+16*s)*m)(p0:0<=p)(pn:p*p*n<=1)(pn1:1<=(p+s)*(p+s)*n) :
 x<=16/\p<=1/\1 - 768*m*s<=x*x*m/\(p+s)*(p+s)*n<=1+3*n*s/\1<=2*(x*x*m)/\0 < x:=by
 have x16:x<=16:=by
  refine(aHd (by grind) ?_).1;have:=fE hm (rJ x);grind
 have pl1:p<=1:=by
  refine(aHd (by grind) ?_).1;have:=fE hn (rJ p);grind
 have xb:1 - 768*m*s<=x*x*m:=by
  have a1:=fE x16 (qmul s0 (show 0<=m by grind));have a2:=fE (show s<=1 by grind) (qmul s0 (show 0<=m by grind));grind
 have ib:(p+s)*(p+s)*n<=1+3*n*s:=by
  have a1:=fE pl1 (qmul s0 (show 0<=n by grind));have a2:=fE (show s<=1 by grind) (qmul s0 (show 0<=n by grind));grind
 have xh:1<=2*(x*x*m):=by
  have:=fE s1 (show 0<=m by grind);grind
 refine⟨x16,pl1,xb,ib,xh,?_⟩;by_cases k:x=0
 ·rw [k] at xh;grind
 ·grind
theorem aUr {A R t:Rat} (hA:0<=A)(hR:0 < R)(h:A<=R)(tR:t*R=A):0<=t/\t<=1:=by
 constructor
 ·refine wJ (c:=R) ?_ hR;grind
 ·refine wJ (c:=R) ?_ hR;grind
theorem bDp (o:Int) {n m c b A R N:Rat} (hn:1<=n)(hm:1<=256*m)(e:m=n - 2*c+b)(cs:c*c<=n*b)(hA:0<=A)(hR1:1<=R - A)(hbR:b*(R*R)<=n*(A*A))(hRN:R*R<=n*(N*N))(hN:0<=N) :
 ∃C:Rat,0<=C/\∀η x p:Rat,0 < η->η<=1->C*η<=1->0<=x->x*x*m<=1->1<=(x+16*(η*η))*(x+16*(η*η))*m->0<=p->p*p*n<=1->1<=(p+η*η)*(p+η*η)*n ->
  (x - (p+η*η)*Tq o (c / n) (m / n))*(R - A)<=N*pwF o (A / R)+C*η/\((p+η*η)*Tq o (c / n) (m / n) - x)*(R - A)<=N*pwF o (A / R)+C*η:=by
 have hR:0 < R:=by grind
 have hn0:n≠0:=by grind
 obtain⟨t,ht⟩:∃t,t=A / R:=⟨_,rfl⟩;obtain⟨g,hg⟩:∃g,g=c / n:=⟨_,rfl⟩;obtain⟨mu,hmu⟩:∃mu,mu=m / n:=⟨_,rfl⟩;rw [←ht,←hg,←hmu];have gn:=aHe hn0 hg;have mn:=aHe hn0 hmu;have tR:=aHe (show R≠0 by grind) ht;obtain⟨ht0,ht1⟩:=aUr hA hR (by grind) tR;clear ht hg hmu;obtain⟨S,hS0,hS⟩:∃S:Rat,0<=S/\∀z,0<=z->z<=2->z*Tq o g mu<=S/\-(z*Tq o g mu)<=S:=by
  rcases Rat.le_total (a:=0) (b:=Tq o g mu) with h | h
  ·refine⟨2*Tq o g mu,by grind,fun z h0 h2=>?_⟩;have:=fE h2 h;have:=qmul h0 h;grind
  ·refine⟨-(2*Tq o g mu),by grind,fun z h0 h2=>?_⟩;have:=fE h2 (show 0<=-Tq o g mu by grind);have:=qmul h0 (show 0<=-Tq o g mu by grind);grind
 obtain⟨D,hD⟩:∃D,D=40*(m+n):=⟨_,rfl⟩;have hD0:0<=D:=by grind
 have hDR:=qmul hD0 (show 0<=R by grind);have hSD:=qmul hS0 hDR;have hm0:0<=m:=by grind
 refine⟨R+(S+40)*(D*R)+D*R+1536*m,by grind,?_⟩;intro η x p h0 h1 hC x0 xm xm1 p0 pn pn1;have hη:0<=η:=by grind
 have k1:=qmul hSD hη;have k2:=qmul hDR hη;have k3:=qmul (show 0<=R by grind) hη;have k4:=qmul hm0 hη;have C1:D*R*η<=1:=by clear hS tR gn mn e;grind
 have C2:1536*m*η<=1:=by clear hS tR gn mn e;grind
 obtain⟨q,hq⟩:∃q,q=D*η:=⟨_,rfl⟩;have qk0:0<=q:=by rw [hq];exact qmul hD0 hη
 have qR:q*R<=1:=by rw [hq];clear hS tR gn mn e;grind
 have tq1:t+q<=1:=by
  refine wJ (c:=R) ?_ hR;clear hS gn mn e hq;grind
 have qk1:q<=1:=by clear hS gn mn e hq;grind
 obtain⟨s,hs⟩:∃s,s=η*η:=⟨_,rfl⟩;rw [←hs] at xm1 pn1 ⊢;have s0:0<=s:=by rw [hs];exact rJ _
 have s1:s<=η:=by rw [hs];have:=fE h1 hη;clear hS gn mn e hq hs;grind
 obtain⟨x16,pl1,xb,ib,xh,xp⟩:=aYr hn hm s0 s1 h1 C2 x0 xm xm1 p0 pn pn1;have ip:0 < p+s:=by
  by_cases k:p+s=0
  ·rw [k] at pn1;clear hS gn mn e hq hs;grind
  ·clear hS gn mn e hq hs;grind
 have i0:0<=p+s:=Rat.le_of_lt ip;obtain⟨w,hw⟩:∃w,w=(p+s) / x:=⟨_,rfl⟩;have wx:=aHe (show x≠0 by clear hS gn mn e hq hs hw;grind) hw;have w0:0 < w:=by rw [hw,Rat.div_def];exact Rat.mul_pos ip (Rat.inv_pos.2 xp)
 clear hw;have hnp:0 < n:=by grind
 have lo:=bDn hnp xp mn wx xm pn1;have hi:=bDo hn hm0 xp mn wx s0 xb ib xh hD (q:=q) (by rw [hq,hs];clear hS gn mn e hq hs;grind);have c1:=bBe hnp e cs mn gn (Rat.le_of_lt w0) lo;have c2:=bBf hnp hR e mn gn tR hbR ht0 qk0 hi;obtain⟨zk1,zk2⟩:=ser o (show 0<=t+q by clear hS gn mn e hq hs;grind) c1 c2 tq1 w0;have y1:=fE zk1 x0;have y2:=fE zk2 x0;have tx:Tq o g (w*w)=Tq o g mu\/Tq o g (w*w)=Tq o g mu - (w*w - mu) / 2:=by
  unfold Tq;split
  ·exact Or.inl rfl
  ·split
   ·exact Or.inl rfl
   ·right;clear hS gn mn e hq hs;grind
 have i2:p+s<=2:=by clear hS gn mn e hq hs;grind
 obtain⟨b1,b2⟩:=hS (p+s) i0 i2;have pb:=bBc o ht0 ht1 qk0 qk1;have p1:=bBd o ht0;have p2:=aYq o ht0 ht1;clear hS c1 c2 zk1 zk2;generalize Tq o g (w*w)=T1 at *;generalize Tq o g mu=T at *;generalize pwF o (t+q)=P1 at *;generalize pwF o t=P at *;clear gn e cs hbR mn;have v1:(x - T1*(p+s))*(1 - (t+q))<=P1*(p+s):=by
  rw [←wx];have a1:(1 - T1*w)*(1 - (t+q))*x=(x - T1*(w*x))*(1 - (t+q)):=by clear wx;grind
  rw [←a1];have a2:P1*(w*x)=P1*w*x:=by clear wx;grind
  rw [a2];exact y1
 have v2:(T1*(p+s) - x)*(1 - (t+q))<=P1*(p+s):=by
  rw [←wx];have a1:(T1*w - 1)*(1 - (t+q))*x=(T1*(w*x) - x)*(1 - (t+q)):=by clear wx;grind
  rw [←a1];have a2:P1*(w*x)=P1*w*x:=by clear wx;grind
  rw [a2];exact y2
 have u1:=fE pb i0;have u2:=fE i2 qk0;have dT:(T1*(p+s) - T*(p+s))<=q/\T*(p+s) - T1*(p+s)<=q:=by
  have a1:=qmul (show 0<=w*w - mu by clear hq hs tR wx;grind) i0;have a2:=fE (show w*w - mu<=q*q by clear hq hs tR wx;grind) i0;have a3:=fE i2 (qmul qk0 qk0);have a4:=fE qk1 qk0;rcases tx with h | h
  ·rw [h];clear hq hs tR wx h a1 a2 a3 a4;grind
  ·rw [h];clear hq hs tR wx h y1 y2 v1 v2;grind
 have rp:p*R<=N:=by
  refine(aHd hN ?_).1;have a1:=fE hRN (rJ p);have a2:=fE pn (rJ N);clear hq hs tR wx tx y1 y2 v1 v2;grind
 have iR:P*((p+s)*R)<=N*P+s*R:=by
  have a1:=fE rp p1;have a2:=fE p2 (qmul s0 (show 0<=R by grind));clear hq hs tR wx tx y1 y2 v1 v2;grind
 have sR:=fE s1 (show 0<=R by grind);have fin:∀X Y:Rat,Y - X<=q->X<=16+S->Y*(1 - (t+q))<=P1*(p+s)->X - Y<=q->X*(R - A)<=N*P+(R+(S+40)*(D*R)+D*R+1536*m)*η:=by
  intro X Y e1 e2 e3 e4;clear y1 y2 v1 v2 wx tx dT b1 b2 hD xm xm1 pn pn1 xb ib xh rp hRN lo hi hC;have k6:=fE e4 (show 0<=1 - (t+q) by clear hq hs tR;grind);have k7:=fE (show 1 - (t+q)<=1 by clear hq hs tR;grind) qk0;have k8:=fE e2 qk0;have k5:X*(1 - t)<=P*(p+s)+(31+S)*q:=by clear hq hs tR;grind
  have k9:=fE k5 (show 0<=R by grind);have k10:X*(R - A)=X*(1 - t)*R:=by rw [←tR];clear hq hs tR;grind
  have k11:(31+S)*q*R=(31+S)*(D*R)*η:=by rw [hq];clear hq hs tR;grind
  rw [k10];clear hq hs tR k10 e1 e2 e3 e4 k6 k7 k8;grind
 refine⟨fin _ (x - T1*(p+s)) ?_ ?_ v1 ?_,fin _ (T1*(p+s) - x) ?_ ?_ v2 ?_⟩<;>(clear fin hq hs tR wx tx y1 y2 v1 v2 hD;grind)
def Apx (η:Rat)(v:Int->Rat):Prop:=0 < η/\η<=1/\∀M:Int,1<=M->0<=v M/\v M*v M*M<=1/\1<=(v M+η*η)*(v M+η*η)*M
theorem aSq (M:Nat)(hM:1<=M):∀N:Nat,∃w:Nat,w*w*M<=N/\N < (w+1)*(w+1)*M
 | 0=>⟨0,by simp,by simp;omega⟩
 | N+1=>by
  obtain⟨w,h1,h2⟩:=aSq M hM N;rcases Nat.lt_or_ge (N+1) ((w+1)*(w+1)*M) with h | h
  ·exact⟨w,by omega,h⟩
  ·refine⟨w+1,h,?_⟩;have:(w+1)*(w+1)*M < (w+1+1)*(w+1+1)*M:=Nat.mul_lt_mul_of_pos_right (Nat.mul_lt_mul'' (by omega) (by omega)) hM;omega
theorem aYs (k:Nat)(hk:1<=k):∃v,Apx (1 / (k:Rat)) v:=by
 have h:=fun M:Nat=>fun hM:1<=M=>aSq M hM (k*k*(k*k))
 have hk0:(0:Rat) < k:=by exact_mod_cast hk
 have hk1:(1:Rat)<=k:=by exact_mod_cast hk
 obtain⟨e,he⟩:∃e:Rat,e=1 / (k:Rat):=⟨_,rfl⟩;have hek:=aHe (by grind) he;rw [←he];have he0:0 < e:=by rw [he,Rat.div_def];have:=Rat.inv_pos.2 hk0;grind
 have he1:e<=1:=by refine wJ (c:=(k:Rat)) ?_ hk0;grind
 refine⟨fun M=>if hM:1<=M.toNat then((Classical.choose (h M.toNat hM):Nat):Rat)*(e*e) else 0,he0,he1,fun M hM=>?_⟩;have hM':1<=M.toNat:=by omega
 simp only [dif_pos hM'];obtain⟨a,b⟩:=Classical.choose_spec (h M.toNat hM');generalize Classical.choose (h M.toNat hM')=w at *;have eM:(M:Rat)=(M.toNat:Rat):=by
  have:M=(M.toNat:Int):=by omega
  conv=>lhs;rw [this]
  rfl
 rw [eM];generalize M.toNat=m at *;have a':(w:Rat)*w*m<=k*k*(k*k):=by exact_mod_cast a
 have b':(k:Rat)*k*(k*k)<=(w+1)*(w+1)*m:=by exact_mod_cast Nat.le_of_lt b
 have hw:(0:Rat)<=w:=by exact_mod_cast Nat.zero_le w
 have e4:=qmul (rJ e) (rJ e);have c1:=fE a' e4;have c2:=fE b' e4;have c3:(k:Rat)*k*(k*k)*(e*e*(e*e))=1:=by
  have:(k:Rat)*k*(k*k)*(e*e*(e*e))=(e*k)*(e*k)*((e*k)*(e*k)):=by grind
  rw [this,hek];grind
 exact⟨qmul hw (rJ e),by grind,by grind⟩
abbrev Fn:=Rat->(Int->Rat)->Rat
def Enc (s:Zs)(f:Fn):Prop:=∃C:Rat,0<=C/\∀η v,Apx η v->C*η<=1->(s.1:Rat)<=f η v+C*η/\f η v<=s.2+C*η
theorem aSr {C D η:Rat} (hC:0<=C)(hD:0<=D)(hη:0 < η)(h:(C+D)*η<=1):C*η<=1/\D*η<=1/\0<=C*η/\0<=D*η:=by
 have a:=qmul hC (Rat.le_of_lt hη);have b:=qmul hD (Rat.le_of_lt hη);exact⟨by grind,by grind,a,b⟩
theorem Enc.congr {s:Zs} {f g:Fn} (h:Enc s f)(e:∀η v,f η v=g η v):Enc s g:=by
 obtain⟨C,h0,h1⟩:=h;exact⟨C,h0,fun η v ha hc=>by rw [←e];exact h1 η v ha hc⟩
theorem Enc.add {s t:Zs} {f g:Fn} (h:Enc s f)(k:Enc t g):Enc (s.1+t.1,s.2+t.2) (fun η v=>f η v+g η v):=by
 obtain⟨C,h0,h1⟩:=h;obtain⟨D,k0,k1⟩:=k;refine⟨C+D,by grind,fun η v ha hc=>?_⟩;obtain⟨c1,c2,c3,c4⟩:=aSr h0 k0 ha.1 hc;have a:=h1 η v ha c1;have b:=k1 η v ha c2;simp only [Rat.intCast_add];exact⟨by grind,by grind⟩
theorem Enc.zero:Enc (0,0) (fun _ _=>0):=⟨0,by grind,fun η v ha hc=>by simp only;have:=ha.1;exact⟨by grind,by grind⟩⟩
theorem Enc.meet {s t:Zs} {f:Fn} (h:Enc s f)(k:Enc t f):s.1<=t.2:=by
 obtain⟨C,h0,h1⟩:=h;obtain⟨D,k0,k1⟩:=k;obtain⟨n,hn⟩:∃n:Nat,C+D+1<=(n:Rat):=by
  refine⟨(C+D+1).ceil.toNat,?_⟩;have h2:=Rat.le_ceil (x:=C+D+1);have h3:((C+D+1).ceil:Rat)<=((C+D+1).ceil.toNat:Rat):=by
   have:(C+D+1).ceil<=((C+D+1).ceil.toNat:Int):=by omega
   exact_mod_cast this
  exact Rat.le_trans h2 h3
 have hn1:(1:Rat)<=n:=by grind
 have hn2:1<=2*n:=by
  have:1<=n:=by exact_mod_cast hn1
  omega
 obtain⟨v,hv⟩:=aYs (2*n) hn2;obtain⟨e,he⟩:∃e:Rat,e=1 / ((2*n:Nat):Rat):=⟨_,rfl⟩;have h2n:((2*n:Nat):Rat)=2*(n:Rat):=by push_cast;rfl
 have hek:=aHe (show((2*n:Nat):Rat)≠0 by rw [h2n];grind) he;rw [←he] at hv;rw [h2n] at hek;have e0:=hv.1;have hs:(C+D)*e < 1:=by
  have:=fE hn (Rat.le_of_lt e0);grind
 obtain⟨c1,c2,c3,c4⟩:=aSr h0 k0 e0 (Rat.le_of_lt hs);have a:=(h1 e v hv c1).1;have b:=(k1 e v hv c2).2;have f:(s.1:Rat) < (t.2:Rat)+1:=by grind
 have f2:((s.1:Int):Rat) < ((t.2+1:Int):Rat):=by rw [Rat.intCast_add];exact f
 have f3:s.1 < t.2+1:=by exact_mod_cast f2
 omega
theorem Enc.scale {s r:Zs} {f:Fn} (h:Enc s f) {q:Int} (h1:r.1<=q*s.1\/r.1<=q*s.2)(h2:r.1<=q*s.1/\r.1<=q*s.2)(h3:q*s.1<=r.2/\q*s.2<=r.2):Enc r (fun η v=>q*f η v):=by
 obtain⟨C,h0,hh⟩:=h;have d1:(r.1:Rat)<=q*s.1:=by exact_mod_cast h2.1
 have d2:(r.1:Rat)<=q*s.2:=by exact_mod_cast h2.2
 have d3:(q:Rat)*s.1<=r.2:=by exact_mod_cast h3.1
 have d4:(q:Rat)*s.2<=r.2:=by exact_mod_cast h3.2
 rcases Rat.le_total (a:=0) (b:=(q:Rat)) with hq | hq
 ·refine⟨(q+1)*C,qmul (by grind) h0,fun η v ha hc=>?_⟩;have k1:=qmul (qmul hq h0) (Rat.le_of_lt ha.1);have k2:=qmul h0 (Rat.le_of_lt ha.1);obtain⟨a,b⟩:=hh η v ha (by grind);have a':=fE a hq;have b':=fE b hq;exact⟨by grind,by grind⟩
 ·refine⟨(-q+1)*C,qmul (by grind) h0,fun η v ha hc=>?_⟩;have k1:=qmul (qmul (show 0<=-(q:Rat) by grind) h0) (Rat.le_of_lt ha.1);have k2:=qmul h0 (Rat.le_of_lt ha.1);obtain⟨a,b⟩:=hh η v ha (by grind);have a':=fE a (show 0<=-(q:Rat) by grind);have b':=fE b (show 0<=-(q:Rat) by grind);exact⟨by grind,by grind⟩
theorem bBg {a b L H X y k:Rat} (h1:a<=X)(h2:X<=b)(h3:L<=y)(h4:y<=H)(k1:k<=a*L)(k2:k<=a*H)(k3:k<=b*L)(k4:k<=b*H):k<=X*y:=by
 have e:∀c:Rat,k<=c*L->k<=c*H->k<=c*y:=by
  intro c c1 c2;rcases Rat.le_total (a:=0) (b:=c) with h | h
  ·have:=fE h3 h;grind
  ·have:=fE h4 (show 0<=-c by grind);grind
 have ea:=e a k1 k2;have eb:=e b k3 k4;rcases Rat.le_total (a:=0) (b:=y) with h | h
 ·have:=fE h1 h;grind
 ·have:=fE h2 (show 0<=-y by grind);grind
theorem Enc.mul {s q p:Zs} {f:Fn} (h:Enc s f) {X O:Rat} (hO:0 < O)(x1:q.1<=X)(x2:X<=q.2)(sv:s.1<=s.2)
 (l1:O*p.1<=q.1*s.1) (l2:O*p.1<=q.1*s.2) (l3:O*p.1<=q.2*s.1) (l4:O*p.1<=q.2*s.2)
 (u1:q.1*s.1<=O*p.2) (u2:q.1*s.2<=O*p.2) (u3:q.2*s.1<=O*p.2) (u4:q.2*s.2<=O*p.2):Enc p (fun η v=>X / O*f η v):=by
 obtain⟨C,h0,hh⟩:=h;obtain⟨B,b0,b1,b2⟩:∃B:Rat,0<=B/\X<=B/\-X<=B:=by
  rcases Rat.le_total (a:=0) (b:=X) with h | h
  ·exact⟨X,h,by grind,by grind⟩
  ·exact⟨-X,by grind,by grind,by grind⟩
 have sv':(s.1:Rat)<=s.2:=by exact_mod_cast sv
 obtain⟨I,hI⟩:∃I:Rat,I=1 / O:=⟨_,rfl⟩;have hIO:=aHe (show O≠0 by grind) hI;have hI0:0 < I:=by rw [hI,Rat.div_def];have:=Rat.inv_pos.2 hO;grind
 have eX:X / O=X*I:=by rw [hI];simp only [Rat.div_def];grind
 have hBC:=qmul (qmul b0 h0) (Rat.le_of_lt hI0);refine⟨B*C*I+C,by grind,fun η v ha hc=>?_⟩;have hη:=Rat.le_of_lt ha.1;have k1:=qmul hBC hη;have k2:=qmul h0 hη;obtain⟨a,b⟩:=hh η v ha (by grind);obtain⟨y,y1,y2,y3,y4⟩:∃y:Rat,s.1<=y/\y<=s.2/\f η v - y<=C*η/\y - f η v<=C*η:=by
  rcases Rat.le_total (a:=(s.1:Rat)) (b:=f η v) with g | g
  ·rcases Rat.le_total (a:=f η v) (b:=(s.2:Rat)) with g' | g'
   ·exact⟨f η v,g,g',by grind,by grind⟩
   ·exact⟨s.2,sv',Rat.le_refl,by grind,by grind⟩
  ·exact⟨s.1,Rat.le_refl,sv',by grind,by grind⟩
 have c1:=bBg x1 x2 y1 y2 l1 l2 l3 l4;have c2:=bBg (k:=-(O*p.2)) (a:=q.1) (b:=q.2) (L:=-s.2) (H:=-s.1) (X:=X) (y:=-y) x1 x2 (by grind) (by grind) (by grind) (by grind) (by grind) (by grind);have d:X*(f η v - y)<=B*(C*η)/\-(B*(C*η))<=X*(f η v - y):=by
  clear c1 c2 l1 l2 l3 l4 u1 u2 u3 u4 eX hIO hI;have zk1:=fE b1 k2;have zk2:=fE b2 k2;rcases Rat.le_total (a:=0) (b:=X) with g | g
  ·have:=fE y3 g;have:=fE y4 g;grind
  ·have:=fE y3 (show 0<=-X by grind);have:=fE y4 (show 0<=-X by grind);grind
 simp only [eX];obtain⟨d1,d2⟩:=d;clear l1 l2 l3 l4 u1 u2 u3 u4 eX hI a b hc hh;have e1:=fE c1 (Rat.le_of_lt hI0);have e2:=fE c2 (Rat.le_of_lt hI0);have e3:=fE d1 (Rat.le_of_lt hI0);have e4:=fE d2 (Rat.le_of_lt hI0);have g1:O*(p.1:Rat)*I=p.1:=by
  have:O*(p.1:Rat)*I=p.1*(I*O):=by grind
  rw [this,hIO];grind
 have g2:-(O*(p.2:Rat))*I=-p.2:=by
  have:-(O*(p.2:Rat))*I=-p.2*(I*O):=by grind
  rw [this,hIO];grind
 rw [g1] at e1;rw [g2] at e2;clear g1 g2 hIO c1 c2 d1 d2;exact⟨by grind,by grind⟩
abbrev Z3:=Zt
def ip (u Y:Z3):Int:=u.1*Y.1+u.2.1*Y.2.1+u.2.2*Y.2.2
def mm (u Y:Z3):Int:=256*ip u u - 32*ip u Y+ip Y Y
theorem wK (a:Int):0<=a*a:=by
 rcases Int.lt_or_le a 0 with h | h
 ·exact Int.mul_nonneg_of_nonpos_of_nonpos (by omega) (by omega)
 ·exact Int.mul_nonneg h h
theorem aWi (u Y:Z3):ip u Y*ip u Y<=ip u u*ip Y Y:=by
 have e:ip u u*ip Y Y - ip u Y*ip u Y=(u.1*Y.2.1 - u.2.1*Y.1)*(u.1*Y.2.1 - u.2.1*Y.1)+(u.1*Y.2.2 - u.2.2*Y.1)*(u.1*Y.2.2 - u.2.2*Y.1)+(u.2.1*Y.2.2 - u.2.2*Y.2.1)*(u.2.1*Y.2.2 - u.2.2*Y.2.1):=by unfold ip;grind
 have a:=wK (u.1*Y.2.1 - u.2.1*Y.1);have b:=wK (u.1*Y.2.2 - u.2.2*Y.1);have c:=wK (u.2.1*Y.2.2 - u.2.2*Y.2.1);omega
theorem bBh (Y:Z3):0<=ip Y Y:=by
 have a:=wK Y.1;have b:=wK Y.2.1;have c:=wK Y.2.2;unfold ip;omega
theorem aYt {u Y:Z3} {A R:Int} (hn:1<=ip u u)(hA:0<=A)(hAR:A < R)(h:ip Y Y*(R*R)<=256*ip u u*(A*A)):1<=mm u Y:=by
 have h1:ip Y Y < 256*ip u u:=by
  rcases Int.lt_or_le (ip Y Y) (256*ip u u) with k | k
  ·exact k
  ·exfalso;have hRR:A*A < R*R:=Int.mul_lt_mul_of_nonneg_of_lt' hA hAR;have e1:=Int.mul_le_mul_of_nonneg_right k (wK R);have e2:256*ip u u*(A*A) < 256*ip u u*(R*R):=Int.mul_lt_mul_of_pos_left hRR (by omega);omega
 have cs:=aWi u Y;have hY:=bBh Y;rcases Int.lt_or_le (mm u Y) 1 with k | k
 ·exfalso;have k':256*ip u u+ip Y Y<=32*ip u Y:=by unfold mm at k;omega
  have e1:(256*ip u u+ip Y Y)*(256*ip u u+ip Y Y)<=32*ip u Y*(32*ip u Y):=Int.mul_le_mul k' k' (by omega) (by omega);have e2:0 < (256*ip u u - ip Y Y)*(256*ip u u - ip Y Y):=Int.mul_pos (by omega) (by omega);generalize ip u u=n at *;generalize ip u Y=c at *;generalize ip Y Y=b at *;have e3:(256*n+b)*(256*n+b)=(256*n - b)*(256*n - b)+1024*(n*b):=by grind
  have e4:32*c*(32*c)=1024*(c*c):=by grind
  omega
 ·exact k
 where
 Int.mul_lt_mul_of_nonneg_of_lt' {a b:Int} (h0:0<=a) (h:a < b):a*a < b*b:=by
  have h1:=Int.mul_le_mul_of_nonneg_left (Int.le_of_lt h) h0;have h2:=Int.mul_lt_mul_of_pos_right h (show 0 < b by omega);omega
def SV (v:Int->Rat)(u:Z3):List Z3->Rat | []=>0 | Y::l=>v (mm u Y)+SV v u l
def tY (o:Int)(u Y:Z3):Rat:=Tq o ((ip u Y:Rat) / 16 / (ip u u:Rat)) ((mm u Y:Rat) / 256 / (ip u u:Rat))
def ST (o:Int)(u:Z3):List Z3->Rat | []=>0 | Y::l=>tY o u Y+ST o u l
section
variable {o : Int} {u : Z3} {A R : Int} {N : Rat}
structure FarH (u:Z3) (A R:Int) (N:Rat):Prop where
 h1:1<=ip u u
 h2:0<=A
 h3:A < R
 h4:0<=N
 h5:(R:Rat)*R<=ip u u*(N*N)
theorem aUs (H:FarH u A R N) {Y:Z3} (hY:ip Y Y*(R*R)<=256*ip u u*(A*A)):∃C:Rat,0<=C/\∀η v,Apx η v->C*η<=1 ->
 (16*v (mm u Y) - (v (ip u u)+η*η)*tY o u Y)*((R:Rat) - A)<=N*pwF o ((A:Rat) / R)+C*η/\((v (ip u u)+η*η)*tY o u Y - 16*v (mm u Y))*((R:Rat) - A)<=N*pwF o ((A:Rat) / R)+C*η:=by
 have hM:=aYt H.h1 H.h2 H.h3 hY;have cs:=aWi u Y;have a1:(1:Rat)<=ip u u:=by exact_mod_cast H.h1
 have a2:(1:Rat)<=mm u Y:=by exact_mod_cast hM
 have a3:(0:Rat)<=A:=by exact_mod_cast H.h2
 have a4:(1:Rat)<=(R:Rat) - A:=by
  have:(1:Rat)+A<=R:=by exact_mod_cast (show 1+A<=R from by have:=H.h3;omega)
  grind
 have a5:(ip u Y:Rat)*ip u Y<=ip u u*ip Y Y:=by exact_mod_cast cs
 have a6:(ip Y Y:Rat)*(R*R)<=256*ip u u*(A*A):=by exact_mod_cast hY
 have a7:(mm u Y:Rat)=256*ip u u - 32*ip u Y+ip Y Y:=by unfold mm;push_cast;rfl
 obtain⟨C,h0,h1⟩:=bDp o (n:=(ip u u:Rat)) (m:=(mm u Y:Rat) / 256) (c:=(ip u Y:Rat) / 16) (b:=(ip Y Y:Rat) / 256) (A:=(A:Rat)) (R:=(R:Rat)) (N:=N) a1 (by grind) (by grind) (by grind) a3 a4 (by grind) H.h5 H.h4;refine⟨C,h0,fun η v ha hc=>?_⟩;obtain⟨b0,b1,b2⟩:=ha.2.2 _ hM;obtain⟨c0,c1,c2⟩:=ha.2.2 _ H.h1;unfold tY;exact h1 η (16*v (mm u Y)) (v (ip u u)) ha.1 ha.2.1 hc (by grind) (by clear h1;grind) (by clear h1;grind) c0 c1 c2
theorem aNu (o:Int)(H:FarH u A R N):∀l:List Z3,(∀Y∈l,ip Y Y*(R*R)<=256*ip u u*(A*A))->∃C:Rat,0<=C/\∀η v,Apx η v->C*η<=1 ->
 (16*SV v u l - (v (ip u u)+η*η)*ST o u l)*((R:Rat) - A)<=(l.length:Nat)*(N*pwF o ((A:Rat) / R))+C*η/\((v (ip u u)+η*η)*ST o u l - 16*SV v u l)*((R:Rat) - A)<=(l.length:Nat)*(N*pwF o ((A:Rat) / R))+C*η
 | [],_=>⟨0,by grind,fun η v _ _=>by simp only [SV,ST,List.length_nil];exact⟨by grind,by grind⟩⟩
 | Y::l,h=>by
  obtain⟨C,h0,h1⟩:=aNu o H l (fun y hy=>h y (List.mem_cons_of_mem _ hy));obtain⟨D,k0,k1⟩:=aUs (o:=o) H (h Y List.mem_cons_self);refine⟨C+D,by grind,fun η v ha hc=>?_⟩;obtain⟨c1,c2,c3,c4⟩:=aSr h0 k0 ha.1 hc;obtain⟨a,b⟩:=h1 η v ha c1;obtain⟨a',b'⟩:=k1 η v ha c2;have e:((Y::l).length:Nat)=(l.length:Rat)+1:=by rw [List.length_cons];push_cast;rfl
  rw [e];simp only [SV,ST];clear h1 k1 hc e;generalize v (ip u u)+η*η=i at *;generalize tY o u Y=T at *;generalize ST o u l=S at *;generalize SV v u l=W at *;generalize N*pwF o ((A:Rat) / R)=P at *;exact⟨by grind,by grind⟩
def aq (q:Int):Int:=if q < 0 then -q else q
def QV (v:Int->Rat)(u:Z3):List (Int×List Z3)->Rat | []=>0 | c::l=>c.1*SV v u c.2+QV v u l
def QT (o:Int)(u:Z3):List (Int×List Z3)->Rat | []=>0 | c::l=>c.1*ST o u c.2+QT o u l
def QQ:List (Int×List Z3)->Int | []=>0 | c::l=>aq c.1+QQ l
theorem aNv (o:Int)(H:FarH u A R N) {k:Nat}:∀l:List (Int×List Z3),(∀c∈l,c.2.length=k/\∀Y∈c.2,ip Y Y*(R*R)<=256*ip u u*(A*A))->∃C:Rat,0<=C/\∀η v,Apx η v->C*η<=1 ->
 (16*QV v u l - (v (ip u u)+η*η)*QT o u l)*((R:Rat) - A)<=(QQ l:Rat)*(k*(N*pwF o ((A:Rat) / R)))+C*η/\((v (ip u u)+η*η)*QT o u l - 16*QV v u l)*((R:Rat) - A)<=(QQ l:Rat)*(k*(N*pwF o ((A:Rat) / R)))+C*η
 | [],_=>⟨0,by grind,fun η v _ _=>by simp only [QV,QT,QQ];exact⟨by grind,by grind⟩⟩
 | c::l,h=>by
  obtain⟨C,h0,h1⟩:=aNv o H l (fun y hy=>h y (List.mem_cons_of_mem _ hy));obtain⟨D,k0,k1⟩:=aNu o H c.2 (h c List.mem_cons_self).2;have hk:=(h c List.mem_cons_self).1;rw [hk] at k1;have qk0:(0:Rat)<=(aq c.1:Rat):=by
   have:(0:Int)<=aq c.1:=by unfold aq;split<;>omega
   exact_mod_cast this
  have qk1:(aq c.1:Rat)=c.1\/(aq c.1:Rat)=-c.1:=by
   unfold aq;split
   ·right;push_cast;rfl
   ·left;rfl
  refine⟨C+(aq c.1:Rat)*D+D,by have:=qmul qk0 k0;grind,fun η v ha hc=>?_⟩;have hη:=Rat.le_of_lt ha.1;have zk1:=qmul h0 hη;have zk2:=qmul (qmul qk0 k0) hη;have zk3:=qmul k0 hη;obtain⟨a,b⟩:=h1 η v ha (by clear h1 k1;grind);obtain⟨a',b'⟩:=k1 η v ha (by clear h1 k1;grind);have e:(QQ (c::l):Rat)=(aq c.1:Rat)+(QQ l:Rat):=by simp only [QQ];push_cast;rfl
  rw [e];simp only [QV,QT];clear h1 k1 hc e hk;generalize (aq c.1:Rat)=Q at *;generalize v (ip u u)+η*η=i at *;generalize ST o u c.2=T at *;generalize QT o u l=S at *;generalize QV v u l=W at *;generalize SV v u c.2=V at *;generalize (k:Rat)*(N*pwF o ((A:Rat) / R))=P at *;have m1:=fE a' qk0;have m2:=fE b' qk0;rcases qk1 with qk1 | qk1
  ·rw [qk1] at m1 m2 zk2 ⊢;exact⟨by grind,by grind⟩
  ·have e:(c.1:Rat)=-Q:=by grind
   rw [e];exact⟨by grind,by grind⟩
end
theorem far_enc {o:Int} {u:Z3} {A R:Int} (H:FarH u A R 1048576) {l:List (Int×List Z3)} (hl:∀c∈l,c.2.length=192/\∀Y∈c.2,ip Y Y*(R*R)<=256*ip u u*(A*A))
 {s:Zs} {G:Rat} (hs:Enc s (fun η v=>1048576*(v (ip u u)+η*η)*G)) (hG:192*G=QT o u l) {e out tot:Int} (he:1048576*pwF o ((A:Rat) / R)<=e) (ht:QQ l<=tot) (he0:0<=e) (ho:tot*e*1048576<=out*(R - A)) :
 Enc (s.1 - out,s.2+out) (fun η v=>1048576 / 12*QV v u l):=by
 obtain⟨C,h0,h1⟩:=aNv o H l hl;obtain⟨D,k0,k1⟩:=hs;have a4:(1:Rat)<=(R:Rat) - A:=by
  have:(1:Rat)+A<=R:=by exact_mod_cast (show 1+A<=R from by have:=H.h3;omega)
  grind
 have ho':(tot:Rat)*e*1048576<=out*((R:Rat) - A):=by
  obtain⟨O,hO⟩:∃O:Int,O=1048576:=⟨_,rfl⟩;have hO':(O:Rat)=1048576:=by rw [hO];rfl
  rw [←hO] at ho;rw [←hO']
  exact_mod_cast ho
 have hQ0:(0:Int)<=QQ l:=by
  clear ho' h1 k1 hG hl ht ho
  induction l with
  | nil=>exact Int.le_refl _
  | cons c l ih =>
   simp only [QQ];have:(0:Int)<=aq c.1:=by unfold aq;split<;>omega
   omega
 have hQr:(0:Rat)<=QQ l:=by exact_mod_cast hQ0
 have ht':(QQ l:Rat)<=tot:=by exact_mod_cast ht
 have he0':(0:Rat)<=e:=by exact_mod_cast he0
 refine⟨8192*C+D,by grind,fun η v ha hc=>?_⟩;have hη:=Rat.le_of_lt ha.1;have zk1:=qmul h0 hη;have zk2:=qmul k0 hη;obtain⟨a,b⟩:=h1 η v ha (by clear h1 k1;grind);obtain⟨a',b'⟩:=k1 η v ha (by clear h1 k1;grind);clear h1 k1 hc;dsimp only at a' b' ⊢;simp only [Rat.intCast_sub,Rat.intCast_add];have m1:=fE he (show 0<=(192:Rat)*QQ l by grind);have m2:=fE ht' he0';have e1:(QQ l:Rat)*(((192:Nat):Rat)*(1048576*pwF o ((A:Rat) / R)))=1048576*pwF o ((A:Rat) / R)*(192*QQ l):=by
  have:((192:Nat):Rat)=192:=rfl;rw [this];clear a b m1;grind
 rw [e1] at a b;generalize 1048576*pwF o ((A:Rat) / R)*(192*QQ l)=P at *;have key:∀X:Rat,X*((R:Rat) - A)<=P+C*η->1048576 / 192*X<=out+8192*(C*η):=by
  intro X hX;refine wJ (c:=(R:Rat) - A) ?_ (by grind);have w1:=fE a4 zk1;clear a b a' b' hG;grind
 have f1:=key _ a;have f2:=key _ b;have g1:1048576*(v (ip u u)+η*η)*G=1048576 / 192*((v (ip u u)+η*η)*QT o u l):=by rw [←hG];clear a b a' b' f1 f2;grind
 rw [g1] at a' b';clear a b key hG g1;exact⟨by grind,by grind⟩
abbrev ZP:=Z3×Z3×Z3
def zad (p q:Z3):Z3:=(p.1+q.1,p.2.1+q.2.1,p.2.2+q.2.2)
def zsb (p q:Z3):Z3:=(p.1 - q.1,p.2.1 - q.2.1,p.2.2 - q.2.2)
def ztm (s:Int)(p:Z3):Z3:=(s*p.1,s*p.2.1,s*p.2.2)
def mids (p:ZP):List Z3:=[zad p.1 p.2.1,zad p.2.1 p.2.2,zad p.2.2 p.1]
def qd (p:ZP):List ZP:=[(zad p.1 p.1,zad p.1 p.2.1,zad p.2.2 p.1),(zad p.1 p.2.1,zad p.2.1 p.2.1,zad p.2.1 p.2.2),(zad p.2.2 p.1,zad p.2.1 p.2.2,zad p.2.2 p.2.2),(zad p.1 p.2.1,zad p.2.1 p.2.2,zad p.2.2 p.1)]
def cqF:Nat->ZP->List ZP | 0,p=>[p] | d+1,p=>(qd p).flatMap (cqF d)
def YL (z:Z3)(p:ZP):List Z3:=((cqF 3 p).flatMap mids).map (fun P=>zsb P (ztm 16 z))
theorem aNw (u p q:Z3):ip u (zad p q)=ip u p+ip u q:=by unfold ip zad;grind
theorem aWj (u p q:Z3):ip u (zsb p q)=ip u p - ip u q:=by unfold ip zsb;grind
theorem aWk (s:Int)(u p:Z3):ip u (ztm s p)=s*ip u p:=by unfold ip ztm;grind
def sf (f:Z3->Int):List Z3->Int | []=>0 | P::l=>f P+sf f l
theorem aLk (f:Z3->Int):∀l m:List Z3,sf f (l++m)=sf f l+sf f m
 | [],m=>by simp [sf]
 | P::l,m=>by simp only [List.cons_append,sf,aLk f l m];omega
theorem aLl (f:Z3->Int)(g:Z3->Z3):∀l:List Z3,sf f (l.map g)=sf (fun P=>f (g P)) l
 | []=>rfl
 | P::l=>by simp only [List.map_cons,sf,aLl f g l]
def l3 (u:Z3)(k:Int)(p:ZP):Int:=(ip u p.1 - k)+(ip u p.2.1 - k)+(ip u p.2.2 - k)
def k3 (u:Z3)(k:Int)(p:ZP):Int:=l3 u k p*l3 u k p+((ip u p.1 - k)*(ip u p.1 - k)+(ip u p.2.1 - k)*(ip u p.2.1 - k)+(ip u p.2.2 - k)*(ip u p.2.2 - k))
theorem aSs (u:Z3):∀(d:Nat) (k:Int) (p:ZP),sf (fun P=>ip u P - 2*2 ^ d*k) ((cqF d p).flatMap mids)=4 ^ d*2 ^ d*2*l3 u k p
 | 0,k,p=>by
  simp only [cqF,List.flatMap_cons,List.flatMap_nil,List.append_nil,mids,sf,aNw,l3];omega
 | d+1,k,p=>by
  have ih:=aSs u d (2*k);have e:(2:Int)*2 ^ (d+1)*k=2*2 ^ d*(2*k):=by rw [Int.pow_succ];grind
  rw [e];simp only [cqF,qd,List.flatMap_cons,List.flatMap_nil,List.append_nil,List.flatMap_append,aLk,ih];simp only [l3,aNw];rw [Int.pow_succ,Int.pow_succ];grind
theorem aNx (u:Z3):∀(d:Nat) (k:Int) (p:ZP),sf (fun P=>(ip u P - 2*2 ^ d*k)*(ip u P - 2*2 ^ d*k)) ((cqF d p).flatMap mids)=4 ^ d*4 ^ d*k3 u k p
 | 0,k,p=>by
  simp only [cqF,List.flatMap_cons,List.flatMap_nil,List.append_nil,mids,sf,aNw,k3,l3];grind
 | d+1,k,p=>by
  have ih:=aNx u d (2*k);have e:(2:Int)*2 ^ (d+1)*k=2*2 ^ d*(2*k):=by rw [Int.pow_succ];grind
  rw [e];simp only [cqF,qd,List.flatMap_cons,List.flatMap_nil,List.append_nil,List.flatMap_append,aLk,ih];simp only [k3,l3,aNw];rw [Int.pow_succ];grind
theorem aYu (u z:Z3)(p:ZP):sf (ip u) (YL z p)=1024*l3 u (ip u z) p:=by
 unfold YL;rw [aLl];have h:=aSs u 3 (ip u z) p;simp only [aWj,aWk];exact h
theorem aBe (u z:Z3)(p:ZP):sf (fun Y=>ip u Y*ip u Y) (YL z p)=4096*k3 u (ip u z) p:=by
 unfold YL;rw [aLl];have h:=aNx u 3 (ip u z) p;simp only [aWj,aWk];exact h
def ex:Z3:=(1,0,0)
def ey:Z3:=(0,1,0)
def ez:Z3:=(0,0,1)
theorem bDq (Y:Z3):ip Y Y=ip ex Y*ip ex Y+ip ey Y*ip ey Y+ip ez Y*ip ez Y:=by unfold ip ex ey ez;grind
theorem bBi (z:Z3)(p:ZP):sf (fun Y=>ip Y Y) (YL z p)=4096*(k3 ex (ip ex z) p+k3 ey (ip ey z) p+k3 ez (ip ez z) p):=by
 have h1:=aBe ex z p;have h2:=aBe ey z p;have h3:=aBe ez z p;have:∀l:List Z3,sf (fun Y=>ip Y Y) l=sf (fun Y=>ip ex Y*ip ex Y) l+sf (fun Y=>ip ey Y*ip ey Y) l+sf (fun Y=>ip ez Y*ip ez Y) l:=by
  intro l
  induction l with
  | nil=>rfl
  | cons Y l ih=>simp only [sf];rw [ih,bDq Y];omega
 rw [this,h1,h2,h3];omega
theorem aHf:∀(d:Nat) (p:ZP),(cqF d p).length=4 ^ d
 | 0,_=>rfl
 | d+1,p=>by simp only [cqF,qd,List.flatMap_cons,List.flatMap_nil,List.length_append,List.length_nil,aHf d,Nat.pow_succ];omega
theorem yA:∀l:List ZP,(l.flatMap mids).length=3*l.length
 | []=>rfl
 | p::l=>by simp only [List.flatMap_cons,List.length_append,yA l,List.length_cons,mids,List.length_nil];omega
theorem YL_len (z:Z3)(p:ZP):(YL z p).length=192:=by
 unfold YL;rw [List.length_map,yA,aHf]
def tP (o:Int)(n L K E:Rat):Rat:=if o=0 then 1 else if o=1 then 1+L / (3*n) else 1+L / (3*n)+(3*K - n*E) / (24*n*n)
theorem aSt (o:Int)(u:Z3)(hn:1<=ip u u):∀l:List Z3,ST o u l=if o=0 then((l.length:Nat):Rat) else if o=1 then((l.length:Nat):Rat)+(sf (ip u) l:Rat) / (16*ip u u) else
 ((l.length:Nat):Rat)+(sf (ip u) l:Rat) / (16*ip u u)+(3*(sf (fun Y=>ip u Y*ip u Y) l:Rat) / (256*ip u u*ip u u) - (sf (fun Y=>ip Y Y) l:Rat) / (256*ip u u)) / 2
 | []=>by
  simp only [ST,sf,List.length_nil];split
  ·rfl
  ·split<;>simp [Rat.div_def]<;>grind
 | Y::l=>by
  have hn1:(1:Rat)<=ip u u:=by exact_mod_cast hn
  have hn0:(ip u u:Rat)≠0:=by grind
  have hi:=aSp hn0;simp only [ST,sf,List.length_cons,aSt o u hn l,tY,Tq];have em:(mm u Y:Rat)=256*ip u u - 32*ip u Y+ip Y Y:=by unfold mm;push_cast;rfl
  rw [em];simp only [Rat.intCast_add,Rat.intCast_mul];generalize (ip u u:Rat)=n at *;have i16:(16*n)⁻¹=n⁻¹ / 16:=by rw [Rat.inv_mul_rev,Rat.div_def];
  have i256:(256*n)⁻¹=n⁻¹ / 256:=by rw [Rat.inv_mul_rev,Rat.div_def];
  have i2:(256*n*n)⁻¹=n⁻¹*n⁻¹ / 256:=by rw [Rat.inv_mul_rev,Rat.inv_mul_rev,Rat.div_def];grind
  split
  ·push_cast;grind
  ·split
   ·push_cast;simp only [Rat.div_def,i16];grind
   ·push_cast;simp only [Rat.div_def,i16,i256,i2];grind
theorem bBj (o:Int)(u z:Z3)(hn:1<=ip u u)(p:ZP):ST o u (YL z p)=192*tP o (ip u u) (l3 u (ip u z) p) (k3 u (ip u z) p) (k3 ex (ip ex z) p+k3 ey (ip ey z) p+k3 ez (ip ez z) p:Int):=by
 have hn1:(1:Rat)<=ip u u:=by exact_mod_cast hn
 have hn0:(ip u u:Rat)≠0:=by grind
 rw [aSt o u hn,YL_len,aYu,aBe,bBi];generalize k3 ex (ip ex z) p+k3 ey (ip ey z) p+k3 ez (ip ez z) p=E;simp only [Rat.intCast_mul,tP];have c1:((1024:Int):Rat)=1024:=rfl;have c2:((4096:Int):Rat)=4096:=rfl;have c3:((192:Nat):Rat)=192:=rfl;rw [c1,c2,c3];generalize (ip u u:Rat)=n at *;have i16:(16*n)⁻¹=n⁻¹ / 16:=by rw [Rat.inv_mul_rev,Rat.div_def]
 have i3:(3*n)⁻¹=n⁻¹ / 3:=by rw [Rat.inv_mul_rev,Rat.div_def]
 have i256:(256*n)⁻¹=n⁻¹ / 256:=by rw [Rat.inv_mul_rev,Rat.div_def]
 have i2:(256*n*n)⁻¹=n⁻¹*n⁻¹ / 256:=by rw [Rat.inv_mul_rev,Rat.inv_mul_rev,Rat.div_def];grind
 have i24:(24*n*n)⁻¹=n⁻¹*n⁻¹ / 24:=by rw [Rat.inv_mul_rev,Rat.inv_mul_rev,Rat.div_def];grind
 have hi:=aSp hn0;split
 ·grind
 ·split
  ·simp only [Rat.div_def,i16,i3];grind
  ·simp only [Rat.div_def,i16,i3,i256,i2,i24];grind
theorem bDr {a M:Int} {η:Rat} {v:Int->Rat} (ha:0<=a)(hM:1<=M)(h:a*a*M<=281474976710656)(hv:Apx η v):(a:Rat)<=16777216*(v M+η*η):=by
 obtain⟨b0,b1,b2⟩:=hv.2.2 M hM;have a0:(0:Rat)<=a:=by exact_mod_cast ha
 have h':(a:Rat)*a*M<=281474976710656:=by
  have:=Rat.intCast_le_intCast.2 h;rw [Rat.intCast_mul,Rat.intCast_mul] at this;exact this
 have s0:=rJ η;refine(aHd (show 0<=16777216*(v M+η*η) by grind) ?_).1;generalize v M+η*η=w at *;have k1:=fE b2 (rJ (a:Rat));have k2:=fE h' (rJ w);grind
theorem bBk {b M:Int} {η:Rat} {v:Int->Rat} (hb:0<=b)(hM:1<=M)(h:281474976710656<=b*b*M)(hv:Apx η v):16777216*v M<=(b:Rat):=by
 obtain⟨b0,b1,b2⟩:=hv.2.2 M hM;have a0:(0:Rat)<=b:=by exact_mod_cast hb
 have h':(281474976710656:Rat)<=b*b*M:=by
  have:=Rat.intCast_le_intCast.2 h;rw [Rat.intCast_mul,Rat.intCast_mul] at this;exact this
 have hM':(0:Rat) < M:=by exact_mod_cast (show 0 < M by omega)
 refine(aHd a0 ?_).1;refine wJ (c:=(M:Rat)) ?_ hM';generalize v M=w at *;grind
theorem aLm (v:Int->Rat)(u:Z3):∀l m:List Z3,SV v u (l++m)=SV v u l+SV v u m
 | [],m=>by simp only [List.nil_append,SV];grind
 | Y::l,m=>by simp only [List.cons_append,SV,aLm v u l m];grind
theorem aSu (v:Int->Rat)(u:Z3)(a b:Rat):∀l:List Z3,SV (fun M=>a*(v M+b)) u l=a*(SV v u l+((l.length:Nat):Rat)*b)
 | []=>by simp only [SV,List.length_nil];grind
 | Y::l=>by
  simp only [SV,aSu v u a b l,List.length_cons];push_cast;grind
theorem aSv (v:Int->Rat)(u:Z3) {k:Rat}:∀l:List Z3,(∀P∈l,k<=v (mm u P))->((l.length:Nat):Rat)*k<=SV v u l
 | [],_=>by simp only [SV,List.length_nil];grind
 | Y::l,h=>by
  have h1:=h Y List.mem_cons_self;have h2:=aSv v u l (fun P hP=>h P (List.mem_cons_of_mem _ hP));simp only [SV,List.length_cons];push_cast;grind
theorem aSw (v:Int->Rat)(u:Z3) {k:Rat}:∀l:List Z3,(∀P∈l,v (mm u P)<=k)->SV v u l<=((l.length:Nat):Rat)*k
 | [],_=>by simp only [SV,List.length_nil];grind
 | Y::l,h=>by
  have h1:=h Y List.mem_cons_self;have h2:=aSw v u l (fun P hP=>h P (List.mem_cons_of_mem _ hP));simp only [SV,List.length_cons];push_cast;grind
theorem aSx {α:Type} (v:Int->Rat)(u:Z3) {K:Nat} {lo:α->Int} {g:α->List Z3}:∀L:List α,(∀c∈L,(g c).length=K/\∀P∈g c,(lo c:Rat)<=v (mm u P))->(K:Rat)*((L.map lo).sum:Int)<=SV v u (L.flatMap g)
 | [],_=>by simp only [List.map_nil,List.sum_nil,List.flatMap_nil,SV];grind
 | c::L,h=>by
  obtain⟨h0,h1⟩:=h c List.mem_cons_self;have h2:=aSx v u L (fun c hc=>h c (List.mem_cons_of_mem _ hc));have h3:=aSv v u (g c) h1;rw [h0] at h3;simp only [List.map_cons,List.sum_cons,List.flatMap_cons,aLm];rw [Rat.intCast_add];grind
theorem aNy {α:Type} (v:Int->Rat)(u:Z3) {K:Nat} {hi:α->Int} {g:α->List Z3}:∀L:List α,(∀c∈L,(g c).length=K/\∀P∈g c,v (mm u P)<=(hi c:Rat))->SV v u (L.flatMap g)<=(K:Rat)*((L.map hi).sum:Int)
 | [],_=>by simp only [List.map_nil,List.sum_nil,List.flatMap_nil,SV];grind
 | c::L,h=>by
  obtain⟨h0,h1⟩:=h c List.mem_cons_self;have h2:=aNy v u L (fun c hc=>h c (List.mem_cons_of_mem _ hc));have h3:=aSw v u (g c) h1;rw [h0] at h3;simp only [List.map_cons,List.sum_cons,List.flatMap_cons,aLm];rw [Rat.intCast_add];grind
theorem aYv (a b:Nat):∀p:ZP,cqF (a+b) p=(cqF a p).flatMap (cqF b):=by
 induction a with|zero=>intro p;simp [cqF]|succ a ih=>?_
 intro p;rw [show a+1+b=(a+b)+1 by omega];simp only [cqF];rw [List.flatMap_assoc];exact congrArg (fun f=>(qd p).flatMap f) (funext ih)
def smpF (p:ZP):List Z3:=(cqF 3 p).flatMap mids
theorem aUt (d k:Nat)(h:3=d+k)(p:ZP):smpF p=(cqF d p).flatMap (fun c=>(cqF k c).flatMap mids):=by
 unfold smpF;rw [h,aYv,List.flatMap_assoc]
theorem aNz (k:Nat)(c:ZP):((cqF k c).flatMap mids).length=3*4 ^ k:=by rw [yA,aHf]
theorem bBl (u z P:Z3):mm (zsb u z) (zsb P (ztm 16 z))=mm u P:=by unfold mm ip zsb ztm;grind
theorem aWl (v:Int->Rat)(u z:Z3):∀l:List Z3,SV v (zsb u z) (l.map fun P=>zsb P (ztm 16 z))=SV v u l
 | []=>rfl
 | P::l=>by simp only [List.map_cons,SV,bBl,aWl v u z l]
theorem SV_YL (v:Int->Rat)(u z:Z3)(p:ZP):SV v (zsb u z) (YL z p)=SV v u (smpF p):=aWl v u z _
theorem mean_enc {u:Z3} {p:ZP} {d k:Nat} {lo hi:ZP->Int} {s m:Zs} (h3:3=d+k)(h1:∀c∈cqF d p,∀P∈(cqF k c).flatMap mids,0<=lo c/\0<=hi c/\1<=mm u P/\lo c*lo c*mm u P<=281474976710656/\281474976710656<=hi c*hi c*mm u P)
 (hs:s=(((cqF d p).map lo).sum,((cqF d p).map hi).sum)) (l1:4 ^ d*m.1<=s.1) (l2:s.2<=4 ^ d*m.2):Enc m (fun η v=>1048576 / 12*SV v u (smpF p)):=by
 refine⟨16777216,by grind,fun η v ha hc=>?_⟩;have hη:=ha.1;have hss:η*η<=η:=by have:=fE ha.2.1 (Rat.le_of_lt hη);grind
 have low:=aSx (fun M=>16777216*(v M+η*η)) u (lo:=lo) (K:=3*4 ^ k) (g:=fun c=>(cqF k c).flatMap mids) (cqF d p) (fun c hc=>⟨aNz k c,fun P hP=>by
  obtain⟨g1,g2,g3,g4,g5⟩:=h1 c hc P hP;exact bDr g1 g3 g4 ha⟩)
 have high:=aNy (fun M=>16777216*(v M+0)) u (hi:=hi) (K:=3*4 ^ k) (g:=fun c=>(cqF k c).flatMap mids) (cqF d p) (fun c hc=>⟨aNz k c,fun P hP=>by
  obtain⟨g1,g2,g3,g4,g5⟩:=h1 c hc P hP;have:=bBk g2 g3 g5 ha;grind⟩)
 rw [←aUt d k h3,aSu] at low high;have hl:(smpF p).length=192:=by unfold smpF;rw [yA,aHf]
 rw [hl] at low high;rw [hs] at l1 l2;simp only at l1 l2;have e192:((192:Nat):Rat)=192:=rfl;rw [e192] at low high;show(m.1:Rat)<=1048576 / 12*SV v u (smpF p)+16777216*η/\1048576 / 12*SV v u (smpF p)<=m.2+16777216*η;generalize SV v u (smpF p)=V at *;generalize ((cqF d p).map lo).sum=A at *;generalize ((cqF d p).map hi).sum=B at *;have hd:d=0\/d=1\/d=2\/d=3:=by omega
 have key:∀(D K:Nat),D*K=64->4 ^ d=D->4 ^ k=K->(m.1:Rat)<=1048576 / 12*V+16777216*η/\1048576 / 12*V<=m.2+16777216*η:=by
  intro D K hDK eD eK;rw [eK] at low high;have eD':(4:Int) ^ d=(D:Nat):=by rw [←eD];push_cast;rfl
  rw [eD'] at l1 l2;have r1:(D:Rat)*m.1<=A:=by exact_mod_cast l1
  have r2:(B:Rat)<=D*m.2:=by exact_mod_cast l2
  have r3:(D:Rat)*K=64:=by exact_mod_cast hDK
  have e3:((3*K:Nat):Rat)=3*(K:Rat):=by push_cast;rfl
  rw [e3] at low high;have K0:(0:Rat)<=3*(K:Rat):=by
   have:(0:Rat)<=K:=by exact_mod_cast Nat.zero_le K
   grind
  have t1:=fE r1 K0;have t2:=fE r2 K0;have f1:(D:Rat)*m.1*(3*K)=192*m.1:=by
   have:(D:Rat)*m.1*(3*K)=3*(D*K)*m.1:=by grind
   rw [this,r3];grind
  have f2:(D:Rat)*m.2*(3*K)=192*m.2:=by
   have:(D:Rat)*m.2*(3*K)=3*(D*K)*m.2:=by grind
   rw [this,r3];grind
  rw [f1] at t1;rw [f2] at t2;clear r1 r2 r3 f1 f2 e3 l1 l2;exact⟨by grind,by grind⟩
 have hk:k=3 - d:=by omega
 subst hk;rcases hd with rfl | rfl | rfl | rfl
 ·exact key 1 64 rfl rfl rfl
 ·exact key 4 16 rfl rfl rfl
 ·exact key 16 4 rfl rfl rfl
 ·exact key 64 1 rfl rfl rfl
abbrev CH:=ZP×Int
def rel (z:Z3)(p:ZP):ZP:=(zsb p.1 z,zsb p.2.1 z,zsb p.2.2 z)
def sm3 (p:ZP):Z3:=(p.1.1+p.2.1.1+p.2.2.1,p.1.2.1+p.2.1.2.1+p.2.2.2.1,p.1.2.2+p.2.1.2.2+p.2.2.2.2)
def kkF (f g:Z3->Int)(p:ZP):Int:=f (sm3 p)*g (sm3 p)+(f p.1*g p.1+f p.2.1*g p.2.1+f p.2.2*g p.2.2)
def pxF (p:Z3):Int:=p.1
def pyF (p:Z3):Int:=p.2.1
def pzF (p:Z3):Int:=p.2.2
def sQ (g:CH->Int):List CH->Int | []=>0 | c::l=>g c+sQ g l
theorem aSy (u z:Z3)(p:ZP):l3 u (ip u z) p=u.1*pxF (sm3 (rel z p))+u.2.1*pyF (sm3 (rel z p))+u.2.2*pzF (sm3 (rel z p)):=by
 unfold l3 ip pxF pyF pzF sm3 rel zsb;grind
theorem aHg (u z:Z3)(p:ZP):k3 u (ip u z) p=u.1*u.1*kkF pxF pxF (rel z p)+u.1*u.2.1*2*kkF pxF pyF (rel z p)+u.1*u.2.2*2*kkF pxF pzF (rel z p)+u.2.1*u.2.1*kkF pyF pyF (rel z p)+u.2.1*u.2.2*2*kkF pyF pzF (rel z p)+u.2.2*u.2.2*kkF pzF pzF (rel z p):=by
 have e1:∀a:Z3,ip u a - ip u z=u.1*(a.1 - z.1)+u.2.1*(a.2.1 - z.2.1)+u.2.2*(a.2.2 - z.2.2):=by intro a;unfold ip;grind
 have e2:=aSy u z p;unfold k3;rw [e2,e1,e1,e1];unfold kkF pxF pyF pzF sm3 rel zsb;simp only;grind
theorem bBm (z:Z3)(p:ZP):k3 ex (ip ex z) p+k3 ey (ip ey z) p+k3 ez (ip ez z) p=kkF pxF pxF (rel z p)+kkF pyF pyF (rel z p)+kkF pzF pzF (rel z p):=by
 rw [aHg,aHg,aHg];simp only [ex,ey,ez];grind
def gP (o:Int)(n Q L K E:Rat):Rat:=if o=0 then Q else if o=1 then Q+L / (3*n) else Q+L / (3*n)+(3*K - n*E) / (24*n*n)
theorem aYw (o:Int)(n q Q L L' K K' E E':Rat):q*tP o n L K E+gP o n Q L' K' E'=gP o n (q+Q) (q*L+L') (q*K+K') (q*E+E'):=by
 unfold tP gP;split
 ·grind
 ·split
  ·simp only [Rat.div_def];grind
  ·simp only [Rat.div_def];grind
theorem QT_sum (o:Int)(u z:Z3)(hn:1<=ip u u):∀l:List CH,QT o u (l.map fun c=>(c.2,YL z c.1)) =
 192*gP o (ip u u) (sQ (fun c=>c.2) l:Int) (sQ (fun c=>c.2*l3 u (ip u z) c.1) l:Int) (sQ (fun c=>c.2*k3 u (ip u z) c.1) l:Int) (sQ (fun c=>c.2*(k3 ex (ip ex z) c.1+k3 ey (ip ey z) c.1+k3 ez (ip ez z) c.1)) l:Int)
 | []=>by
  simp only [List.map_nil,QT,sQ,gP];split
  ·grind
  ·split<;>simp only [Rat.div_def]<;>grind
 | c::l=>by
  simp only [List.map_cons,QT,QT_sum o u z hn l,bBj o u z hn,sQ];simp only [Rat.intCast_add,Rat.intCast_mul];rw [←aYw];grind
theorem sQ_lin (u z:Z3):∀l:List CH,sQ (fun c=>c.2*l3 u (ip u z) c.1) l=u.1*sQ (fun c=>c.2*pxF (sm3 (rel z c.1))) l+u.2.1*sQ (fun c=>c.2*pyF (sm3 (rel z c.1))) l+u.2.2*sQ (fun c=>c.2*pzF (sm3 (rel z c.1))) l
 | []=>by simp [sQ]
 | c::l=>by
  show c.2*l3 u (ip u z) c.1+sQ _ l=_;rw [sQ_lin u z l,aSy];simp only [sQ];generalize sQ _ l=A;generalize sQ _ l=B;generalize sQ _ l=C;generalize pxF (sm3 (rel z c.1))=a;generalize pyF (sm3 (rel z c.1))=b;generalize pzF (sm3 (rel z c.1))=d;grind
theorem sQ_quad (u z:Z3):∀l:List CH,sQ (fun c=>c.2*k3 u (ip u z) c.1) l=u.1*u.1*sQ (fun c=>c.2*kkF pxF pxF (rel z c.1)) l+u.1*u.2.1*2*sQ (fun c=>c.2*kkF pxF pyF (rel z c.1)) l+u.1*u.2.2*2*sQ (fun c=>c.2*kkF pxF pzF (rel z c.1)) l+u.2.1*u.2.1*sQ (fun c=>c.2*kkF pyF pyF (rel z c.1)) l+u.2.1*u.2.2*2*sQ (fun c=>c.2*kkF pyF pzF (rel z c.1)) l+u.2.2*u.2.2*sQ (fun c=>c.2*kkF pzF pzF (rel z c.1)) l
 | []=>by simp [sQ]
 | c::l=>by
  show c.2*k3 u (ip u z) c.1+sQ _ l=_;rw [sQ_quad u z l,aHg];simp only [sQ];generalize sQ _ l=A1;generalize sQ _ l=A2;generalize sQ _ l=A3;generalize sQ _ l=A4;generalize sQ _ l=A5;generalize sQ _ l=A6;generalize kkF pxF pxF (rel z c.1)=b1;generalize kkF pxF pyF (rel z c.1)=b2;generalize kkF pxF pzF (rel z c.1)=b3;generalize kkF pyF pyF (rel z c.1)=b4;generalize kkF pyF pzF (rel z c.1)=b5;generalize kkF pzF pzF (rel z c.1)=b6;grind
theorem sQ_tr (z:Z3):∀l:List CH,sQ (fun c=>c.2*(k3 ex (ip ex z) c.1+k3 ey (ip ey z) c.1+k3 ez (ip ez z) c.1)) l=sQ (fun c=>c.2*kkF pxF pxF (rel z c.1)) l+sQ (fun c=>c.2*kkF pyF pyF (rel z c.1)) l+sQ (fun c=>c.2*kkF pzF pzF (rel z c.1)) l
 | []=>by simp [sQ]
 | c::l=>by
  show c.2*(k3 ex (ip ex z) c.1+k3 ey (ip ey z) c.1+k3 ez (ip ez z) c.1)+sQ _ l=_;rw [sQ_tr z l,bBm];simp only [sQ];generalize sQ _ l=A;generalize sQ _ l=B;generalize sQ _ l=C;generalize kkF pxF pxF (rel z c.1)=a;generalize kkF pyF pyF (rel z c.1)=b;generalize kkF pzF pzF (rel z c.1)=d;grind
theorem sQ_bd {g:CH->Int} {B:Int}:∀l:List CH,(∀c∈l,-B<=g c/\g c<=B)->-(B*(l.length:Nat))<=sQ g l/\sQ g l<=B*(l.length:Nat)
 | [],_=>by simp [sQ]
 | c::l,h=>by
  have h1:=h c List.mem_cons_self;have h2:=sQ_bd l (fun c hc=>h c (List.mem_cons_of_mem _ hc));simp only [sQ,List.length_cons];rw [show((l.length+1:Nat):Int)=(l.length:Nat)+1 by omega,Int.mul_add,Int.mul_one];omega
theorem sQ_app (g:CH->Int):∀l m:List CH,sQ g (l++m)=sQ g l+sQ g m
 | [],m=>by simp [sQ]
 | c::l,m=>by simp only [List.cons_append,sQ,sQ_app g l m];omega
theorem QQ_sum (f:CH->List Z3):∀l:List CH,QQ (l.map fun c=>(c.2,f c))=sQ (fun c=>aq c.2) l
 | []=>rfl
 | c::l=>by simp only [List.map_cons,QQ,sQ,QQ_sum f l]
theorem inv_enc {n L H:Int} (hn:1<=n)(l0:0<=L)(h0:0<=H)(l1:L*L*n<=1099511627776)(h1:1099511627776<=H*H*n):Enc (L,H) (fun η v=>1048576*(v n+η*η)):=by
 refine⟨1048576,by grind,fun η v ha hc=>?_⟩;obtain⟨b0,b1,b2⟩:=ha.2.2 n hn;have a0:(0:Rat)<=L:=by exact_mod_cast l0
 have a1:(0:Rat)<=H:=by exact_mod_cast h0
 have n0:(0:Rat) < n:=by exact_mod_cast (show 0 < n by omega)
 have l':(L:Rat)*L*n<=1099511627776:=by
  have:=Rat.intCast_le_intCast.2 l1;rw [Rat.intCast_mul,Rat.intCast_mul] at this;exact this
 have h':(1099511627776:Rat)<=H*H*n:=by
  have:=Rat.intCast_le_intCast.2 h1;rw [Rat.intCast_mul,Rat.intCast_mul] at this;exact this
 have s0:=rJ η;have hη:=Rat.le_of_lt ha.1;have ss:η*η<=η:=by have:=fE ha.2.1 hη;grind
 have k1:(L:Rat)<=1048576*(v n+η*η):=by
  refine(aHd (show 0<=1048576*(v n+η*η) by grind) ?_).1;generalize v n+η*η=w at *;have k1:=fE b2 (rJ (L:Rat));have k2:=fE l' (rJ w);grind
 have k2:1048576*v n<=(H:Rat):=by
  refine(aHd a1 ?_).1;refine wJ (c:=(n:Rat)) ?_ n0;generalize v n=w at *;grind
 show(L:Rat)<=1048576*(v n+η*η)+1048576*η/\1048576*(v n+η*η)<=H+1048576*η;clear b1 b2 l' h';exact⟨by grind,by grind⟩
theorem quo_enc {n x d:Int} {f:Fn} (hd:0 < d) {s q p:Zs} (h:Enc s f)(hq:q=(x*1048576 / d,-(-(x*1048576) / d)))(sv:s.1<=s.2)
 (lo:∀a∈[q.1,q.2],∀b∈[s.1,s.2],1048576*p.1<=a*b/\a*b<=1048576*p.2):Enc p (fun η v=>(x:Rat) / d*f η v):=by
 have d0:(0:Rat) < d:=by exact_mod_cast hd
 have d1:=aSp (show(d:Rat)≠0 by grind);have qk1:q.1*d<=x*1048576:=by rw [hq];exact Int.ediv_mul_le _ (by omega)
 have qk2:x*1048576<=q.2*d:=by
  rw [hq];have:=Int.ediv_mul_le (-(x*1048576)) (b:=d) (by omega);simp only [Int.neg_mul];omega
 have qk1':(q.1:Rat)*d<=x*1048576:=by
  have:=Rat.intCast_le_intCast.2 qk1;rw [Rat.intCast_mul,Rat.intCast_mul] at this;exact this
 have qk2':(x:Rat)*1048576<=q.2*d:=by
  have:=Rat.intCast_le_intCast.2 qk2;rw [Rat.intCast_mul,Rat.intCast_mul] at this;exact this
 obtain⟨X,hX⟩:∃X:Rat,X=(x:Rat)*1048576 / d:=⟨_,rfl⟩;have hXd:=aHe (show(d:Rat)≠0 by grind) hX;have c1:(q.1:Rat)<=X:=by refine wJ (c:=(d:Rat)) ?_ d0;rw [hXd];exact qk1'
 have c2:X<=(q.2:Rat):=by refine wJ (c:=(d:Rat)) ?_ d0;rw [hXd];exact qk2'
 have cast:∀a b:Int,1048576*p.1<=a*b/\a*b<=1048576*p.2->(1048576:Rat)*p.1<=a*b/\(a:Rat)*b<=1048576*p.2:=by
  intro a b ⟨h1,h2⟩;have g1:=Rat.intCast_le_intCast.2 h1;have g2:=Rat.intCast_le_intCast.2 h2;rw [Rat.intCast_mul,Rat.intCast_mul] at g1 g2;exact⟨g1,g2⟩
 have m1:=cast _ _ (lo q.1 (by simp) s.1 (by simp));have m2:=cast _ _ (lo q.1 (by simp) s.2 (by simp));have m3:=cast _ _ (lo q.2 (by simp) s.1 (by simp));have m4:=cast _ _ (lo q.2 (by simp) s.2 (by simp));refine(Enc.mul h (q:=q) (X:=X) (O:=1048576) (by grind) c1 c2 sv m1.1 m2.1 m3.1 m4.1 m1.2 m2.2 m3.2 m4.2).congr (fun η v=>?_);have:X / 1048576=(x:Rat) / d:=by
  have i1:=aSp (show(1048576:Rat)≠0 by grind);rw [hX];simp only [Rat.div_def];grind
 rw [this]
theorem pw_t {A R t:Int} (hR:0 < R)(h:A*1048576<=t*R):(1048576:Rat)*((A:Rat) / R)<=t:=by
 have r0:(0:Rat) < R:=by exact_mod_cast hR
 have h':(A:Rat)*1048576<=t*R:=by
  have:=Rat.intCast_le_intCast.2 h;rw [Rat.intCast_mul,Rat.intCast_mul] at this;exact this
 obtain⟨y,hy⟩:∃y:Rat,y=(A:Rat) / R:=⟨_,rfl⟩;have hyR:=aHe (show(R:Rat)≠0 by grind) hy;rw [←hy];refine wJ (c:=(R:Rat)) ?_ r0;clear hy;grind
theorem pw_s {x y:Rat} {e t f:Int} (hx:0<=x)(hy:0<=y)(h1:1048576*x<=e)(h2:1048576*y<=t)(h:e*t<=f*1048576):1048576*(x*y)<=f:=by
 have h':(e:Rat)*t<=f*1048576:=by
  have:=Rat.intCast_le_intCast.2 h;rw [Rat.intCast_mul,Rat.intCast_mul] at this;exact this
 have m1:=fE h1 (show 0<=1048576*y by grind);have e0:(0:Rat)<=e:=by grind
 have m2:=fE h2 e0;refine wJ (c:=1048576) ?_ (by grind);clear h1 h2;grind
theorem ar_nnF {A R:Int} (hA:0<=A)(hR:0 < R):(0:Rat)<=(A:Rat) / R:=by
 have r0:(0:Rat) < R:=by exact_mod_cast hR
 have a0:(0:Rat)<=A:=by exact_mod_cast hA
 rw [Rat.div_def];exact qmul a0 (Rat.le_of_lt (Rat.inv_pos.2 r0))
end MxT
end Go.Proofs.YtlffahoikfahlaaGreat
namespace Go.Proofs.YtlffahoikfahlaaGreat
open Go.Proofs Go.Aw Go.RowKit
set_option maxRecDepth 100000
theorem aN0 {y:PN} (h:bdP 100000 y):uP y=MxT.qd y:=by
 have e:∀p:P3,(2*p.1,2*p.2.1,2*p.2.2)=ad p p:=fun p=>by unfold ad;simp only [eZ];omega
 unfold uP q1 q2 q3 q4;rw [xG h.1 h.2.1,xG h.2.2 h.1,xG h.2.1 h.2.2,nO h.1,nO h.2.1,nO h.2.2,e,e,e];rfl
theorem aLn:∀(d:Nat) {m:Int} {p:PN},bdP m p->m*2 ^ d<=100000->0<=m->eL d p=MxT.cqF d p
 | 0,_,_,_,_,_=>rfl
 | d+1,m,p,h,hm,h0=>by
  have hp:(0:Int) < 2 ^ d:=Int.pow_pos (by omega);have hm2:2*m*2 ^ d<=100000:=by rw [Int.pow_succ] at hm;rw [Int.mul_comm 2 m,Int.mul_assoc,Int.mul_comm 2];exact hm
  have hle:m*1<=m*2 ^ (d+1):=Int.mul_le_mul_of_nonneg_left (by rw [Int.pow_succ];omega) h0;have hb:=fun y (hy:y∈uP p)=>aMf h (show m<=100000 by omega) hy
  have key:∀l:List PN,(∀y∈l,y∈uP p)->l.flatMap (eL d)=l.flatMap (MxT.cqF d):=by
   intro l
   induction l with
   | nil=>intro _;rfl
   | cons y l ih =>
    intro hl;rw [List.flatMap_cons,List.flatMap_cons,ih (fun z hz=>hl z (List.mem_cons_of_mem _ hz)),aLn d (hb y (hl y List.mem_cons_self)) hm2 (by omega)]
  have k:=key (uP p) (fun y hy=>hy);show eL (d+1) p=(MxT.qd p).flatMap (MxT.cqF d);rw [←aN0 (h.mono (by omega)),←k];simp only [uP,eL,List.flatMap_cons,List.flatMap_nil,List.append_nil]
theorem aSz (a b:Int)(x:P3):tm a (tm b x)=tm (a*b) x:=by unfold tm;simp only [Int.mul_assoc]
theorem aWm:∀(k:Nat) {m:Int} {c f:PN} (x:P3),bdP m c->m*2 ^ k<=100000->0<=m->f∈eL k c->fa f (tm (2 ^ k) x)<=4 ^ k*fa c x/\4 ^ k*ne c x<=ne f (tm (2 ^ k) x)
 | 0,m,c,f,x,_,_,_,h=>by
  simp only [eL,List.mem_singleton] at h;subst h;have e:tm (2 ^ 0) x=x:=by unfold tm;simp
  rw [e];simp only [Int.pow_zero,Int.one_mul];exact⟨Int.le_refl _,Int.le_refl _⟩
 | k+1,m,c,f,x,hb,hm,h0,hf=>by
  rw [kO,List.mem_flatMap] at hf;obtain⟨y,hy,hf⟩:=hf;have hp:(0:Int) < 2 ^ k:=Int.pow_pos (by omega);have hle:m*2 ^ k<=m*2 ^ (k+1):=Int.mul_le_mul_of_nonneg_left (by rw [Int.pow_succ];omega) h0;have hyb:=(aA1 k hb (by omega) h0 hy).mono (show m*2 ^ k<=100000 by omega);obtain⟨i1,i2⟩:=aWm k x hb (by omega) h0 hy;have g1:=aT8 (x:=tm (2 ^ k) x) hyb hf;have g2:=aT9 (x:=tm (2 ^ k) x) hyb hf;have e0:(2:Int)*2 ^ k=2 ^ (k+1):=by rw [Int.pow_succ,Int.mul_comm]
  rw [aSz,e0] at g1 g2;have e1:(4:Int) ^ (k+1)*fa c x=4*(4 ^ k*fa c x):=by rw [Int.pow_succ];grind
  have e2:(4:Int) ^ (k+1)*ne c x=4*(4 ^ k*ne c x):=by rw [Int.pow_succ];grind
  rw [e1,e2];exact⟨by omega,by omega⟩
theorem aYx {c:PN} {a x:P3} (h:a=c.1\/a=c.2.1\/a=c.2.2):ne c x<=ds a x:=by
 obtain⟨i1,i2,i3,i4,i5,i6⟩:=in3 h;have h1:=aFc (x:=x.1) i1 i2;have h2:=aFc (x:=x.2.1) i3 i4;have h3:=aFc (x:=x.2.2) i5 i6;unfold ne nr ds dt sb;simp only;omega
theorem bBn (x P:P3):MxT.mm x P=ds P (tm 16 x):=by unfold MxT.mm MxT.ip ds dt sb tm;simp only;grind
theorem aYy {f:PN} (h:bdP 100000 f) {P:P3} (hP:P∈MxT.mids f):∃y∈uP f,P=y.1\/P=y.2.1\/P=y.2.2:=by
 rw [aN0 h];simp only [MxT.mids,MxT.qd,List.mem_cons,List.not_mem_nil,or_false] at hP ⊢;rcases hP with rfl | rfl | rfl
 ·exact⟨_,.inl rfl,.inr (.inl rfl)⟩
 ·exact⟨_,.inr (.inl rfl),.inr (.inr rfl)⟩
 ·exact⟨_,.inl rfl,.inr (.inr rfl)⟩
theorem aS0 {c:PN} {k:Nat} (hc:bdP 512 c)(hk:k<=3) {x P:P3} (hP:P∈(MxT.cqF k c).flatMap MxT.mids):ds P (tm (2 ^ (k+1)) x)<=4 ^ (k+1)*fa c x/\4 ^ (k+1)*ne c x<=ds P (tm (2 ^ (k+1)) x):=by
 have h4:k=0\/k=1\/k=2\/k=3:=by omega
 have hm:(512:Int)*2 ^ k<=100000/\(512:Int)*2 ^ (k+1)<=100000:=by rcases h4 with rfl | rfl | rfl | rfl<;>decide
 rw [←aLn k hc hm.1 (by omega),List.mem_flatMap] at hP;obtain⟨f,hf,hP⟩:=hP;obtain⟨y,hy,ha⟩:=aYy ((aA1 k hc hm.1 (by omega) hf).mono hm.1) hP;have hyc:y∈eL (k+1) c:=by rw [kO];exact List.mem_flatMap.2 ⟨f,hf,hy⟩
 obtain⟨g1,g2⟩:=aWm (k+1) x hc hm.2 (by omega) hyc;exact⟨Int.le_trans (zV y _ P ha) g1,Int.le_trans g2 (aYx ha)⟩
noncomputable def S0 (v:Int->Rat)(x:P3)(p:PN):Rat:=MxT.SV v x (MxT.smpF p)
theorem aS1 {p:PN} {x:P3} {d:Int} (h:(xI qZ p x d).2=0):MxT.Enc (xI qZ p x d).1 (fun η v=>1048576 / 12*S0 v x p):=by
 have hc:ck p x d=0:=(aIy (of:=qZ) (fun s hs=>wG hs) h).1;obtain⟨hp,hx,hd⟩:=aMh hc;have hb:=(aIr hp).1;have e:xI qZ p x d=xH (qZ (sc d)) p x d:=by unfold xI;rw [if_pos hc]
 rw [e] at h ⊢;unfold xH at h ⊢;rw [aMn] at h ⊢;by_cases hz:0 < ((eL d.toNat p).map (zc (tm (sc d) x))).sum
 ·rw [if_pos hz] at h;exact absurd h (by show(10:Int)≠0;decide)
 rw [if_neg hz];have hne:∀c∈eL d.toNat p,1<=ne c (tm (sc d) x):=by
  intro c hc;have h0:=(aMk c (tm (sc d) x)).1;rcases Int.lt_or_le (ne c (tm (sc d) x)) 1 with k | k
  ·exfalso;refine hz ?_;have hn:∀c,0<=zc (tm (sc d) x) c:=fun c=>by unfold zc;split<;>omega
   obtain⟨s,t,hs⟩:=List.append_of_mem hc;have a1:=aKu (l:=s) hn;have a2:=aKu (l:=t) hn;have a3:zc (tm (sc d) x) c=1:=by unfold zc;rw [if_pos (by omega)]
   rw [hs,List.map_append,List.sum_append,List.map_cons,List.sum_cons];omega
  ·exact k
 obtain⟨k,h3,hk,ek,e2,hsb⟩:∃k:Nat,3=d.toNat+k/\k<=3/\(4:Int) ^ (k+1)*NN (sc d)=281474976710656/\(2:Int) ^ (k+1)*sc d=16/\(4:Int) ^ d.toNat=sc d*sc d:=by
  rcases d4 hd with rfl | rfl | rfl | rfl
  ·exact⟨3,by decide,by decide,by decide,by decide,by decide⟩
  ·exact⟨2,by decide,by decide,by decide,by decide,by decide⟩
  ·exact⟨1,by decide,by decide,by decide,by decide,by decide⟩
  ·exact⟨0,by decide,by decide,by decide,by decide,by decide⟩
 have hcut:eL d.toNat p=MxT.cqF d.toNat p:=aLn d.toNat hb (by rcases d4 hd with rfl | rfl | rfl | rfl<;>decide) (by decide);have hsd:=aVj d;show MxT.Enc (avg _ (sc d*sc d)) _;refine MxT.mean_enc (lo:=fun c=>(qZ (sc d) (fa c (tm (sc d) x))).1) (hi:=fun c=>(qZ (sc d) (ne c (tm (sc d) x))).2) (s:=(0+((eL d.toNat p).map fun c=>(qZ (sc d) (fa c (tm (sc d) x))).1).sum,0+((eL d.toNat p).map fun c=>(qZ (sc d) (ne c (tm (sc d) x))).2).sum)) h3 (fun c hc P hP=>?_) (by rw [hcut,Int.zero_add,Int.zero_add]) ?_ ?_
 ·rw [←hcut] at hc;obtain⟨g1,g2⟩:=aS0 (aMl hb hd hc) hk (x:=tm (sc d) x) hP;rw [aSz,e2,←bBn] at g1 g2;have hn:=hne c hc;have hf:=(aMk c (tm (sc d) x)).2;have ho:=wG (vA d);have hK:(1:Int)<=4 ^ (k+1):=by
   have:(0:Int) < 4 ^ (k+1):=Int.pow_pos (by omega);omega
  have hKn:=Int.mul_le_mul hK hn (by omega) (by omega);obtain⟨r,hr,_,r0,_,_,_,_,r5⟩:=qY (N:=NN (sc d)) (n:=fa c (tm (sc d) x)) (aCu (vA d)) (by omega);have hi:=aQo (N:=NN (sc d)) (n:=ne c (tm (sc d) x)) ⟨by rcases vA d with e | e | e | e<;>rw [e]<;>decide,(aCu (vA d)).2⟩ hn;have l0:=ho.lo (fa c (tm (sc d) x));have e1:(qZ (sc d) (fa c (tm (sc d) x))).1=r:=by unfold qZ;rw [if_neg (by omega)];exact hr
  have e3:(qZ (sc d) (ne c (tm (sc d) x))).2=(inv (NN (sc d)) (ne c (tm (sc d) x))).2:=by unfold qZ;rw [if_neg (by omega)]
  rw [e1,e3];obtain⟨hi0,hi1,_⟩:=hi;generalize (inv (NN (sc d)) (ne c (tm (sc d) x))).2=b at *;generalize MxT.mm x P=M at *;refine⟨r0,by omega,by omega,?_,?_⟩
  ·have m1:=Int.mul_le_mul_of_nonneg_left g1 (show 0<=r*r from Int.mul_nonneg r0 r0);have m2:=Int.mul_le_mul_of_nonneg_left r5 (show(0:Int)<=4 ^ (k+1) by omega);have m3:r*r*(4 ^ (k+1)*fa c (tm (sc d) x))=4 ^ (k+1)*(r*r*fa c (tm (sc d) x)):=by grind
   omega
  ·have m1:=Int.mul_le_mul_of_nonneg_left g2 (show 0<=b*b from Int.mul_nonneg (by omega) (by omega));have m2:=Int.mul_le_mul_of_nonneg_left hi1 (show(0:Int)<=4 ^ (k+1) by omega);have m3:b*b*(4 ^ (k+1)*ne c (tm (sc d) x))=4 ^ (k+1)*(b*b*ne c (tm (sc d) x)):=by grind
   omega
 ·rw [hsb];simp only [avg,Int.zero_add];rw [Int.mul_comm];exact Int.ediv_mul_le _ (by have:=aCv d;omega)
 ·rw [hsb];simp only [avg,Int.zero_add];have:=Int.ediv_mul_le (-((eL d.toNat p).map fun c=>(qZ (sc d) (ne c (tm (sc d) x))).2).sum) (b:=sc d*sc d) (by have:=aCv d;omega);rw [Int.mul_neg,Int.mul_comm];omega
abbrev MOM:=qJ
def gD (f:P3->Int)(z:P3)(c:PN×Int):Int:=c.2*f (MxT.sm3 (MxT.rel z c.1))
def gS (f g:P3->Int)(z:P3)(c:PN×Int):Int:=c.2*MxT.kkF f g (MxT.rel z c.1)
def eQ (z:P3)(l:fV):MOM:=(MxT.sQ (fun c=>c.2) l,MxT.sQ (fun c=>MxT.aq c.2) l,(MxT.sQ (gD MxT.pxF z) l,MxT.sQ (gD MxT.pyF z) l,MxT.sQ (gD MxT.pzF z) l), MxT.sQ (gS MxT.pxF MxT.pxF z) l,MxT.sQ (gS MxT.pxF MxT.pyF z) l,MxT.sQ (gS MxT.pxF MxT.pzF z) l,MxT.sQ (gS MxT.pyF MxT.pyF z) l,MxT.sQ (gS MxT.pyF MxT.pzF z) l,MxT.sQ (gS MxT.pzF MxT.pzF z) l)
def mW (m:MOM):MOM:=(W m.1,W m.2.1,(W m.2.2.1.1,W m.2.2.1.2.1,W m.2.2.1.2.2),W m.2.2.2.1,W m.2.2.2.2.1,W m.2.2.2.2.2.1,W m.2.2.2.2.2.2.1,W m.2.2.2.2.2.2.2.1,W m.2.2.2.2.2.2.2.2)
theorem bBo {z:P3} {l:fV} {x:PN×Int} (hx:-100<=x.2/\x.2<=100):pB (mW (eQ z l),z) x=(mW (eQ z (l++[x])),z):=by
 unfold mW eQ;simp only [MxT.sQ_app,MxT.sQ];generalize MxT.sQ (fun c:PN×Int=>c.2) l=s0;generalize MxT.sQ (fun c:PN×Int=>MxT.aq c.2) l=s1;generalize MxT.sQ (gD MxT.pxF z) l=d0;generalize MxT.sQ (gD MxT.pyF z) l=d1;generalize MxT.sQ (gD MxT.pzF z) l=d2;generalize MxT.sQ (gS MxT.pxF MxT.pxF z) l=m0;generalize MxT.sQ (gS MxT.pxF MxT.pyF z) l=m1;generalize MxT.sQ (gS MxT.pxF MxT.pzF z) l=m2;generalize MxT.sQ (gS MxT.pyF MxT.pyF z) l=m3;generalize MxT.sQ (gS MxT.pyF MxT.pzF z) l=m4;generalize MxT.sQ (gS MxT.pzF MxT.pzF z) l=m5;have ha:(if(x.2:Int) < (W (0 - x.2)) then(W (0 - x.2)) else x.2)=MxT.aq x.2:=by
  rw [aG (n:=0 - x.2) (by omega) (by omega)];unfold MxT.aq;(repeat' split)<;>omega
 unfold pB kA;simp only [ha,bB,gD,gS,MxT.kkF,MxT.sm3,MxT.rel,MxT.zsb,MxT.pxF,MxT.pyF,MxT.pzF,WaL,WaR,WmL,WmR,WsL,WsR,eZ,and_true];refine⟨?_,?_,⟨?_,?_,?_⟩,?_,?_,?_,?_,?_,?_⟩<;>(congr 1;grind)
theorem aUu {l:fV} (hv:xT l)(z:P3):aE (mO l z) (tN ((l.length:Int) - 0)+1) (0,0,0,0,0,0,0,0,0,0,0,0,z.1,z.2.1,z.2.2)=(mW (eQ z l),0):=by
 refine jQ (S:=mO l z) (fun v=>tN ((l.length:Nat) - v.1)) (fun v=>∃i:Nat,i<=l.length/\v=((i:Int),(mW (eQ z (l.take i))).1,(mW (eQ z (l.take i))).2.1,(mW (eQ z (l.take i))).2.2.1.1,(mW (eQ z (l.take i))).2.2.1.2.1,(mW (eQ z (l.take i))).2.2.1.2.2,(mW (eQ z (l.take i))).2.2.2.1,(mW (eQ z (l.take i))).2.2.2.2.1,(mW (eQ z (l.take i))).2.2.2.2.2.1,(mW (eQ z (l.take i))).2.2.2.2.2.2.1,(mW (eQ z (l.take i))).2.2.2.2.2.2.2.1,(mW (eQ z (l.take i))).2.2.2.2.2.2.2.2,z.1,z.2.1,z.2.2)) (fun r=>r=(mW (eQ z l),0)) (fun v hv'=>?_) _ _ ⟨0,Nat.zero_le _,?_⟩ (by simp only;omega)
 ·obtain⟨i,hi,rfl⟩:=hv';simp only [mO,iH];by_cases h:i < l.length
  ·left;have hq:=(hv.2 i h).2;have e:l.take (i+1)=l.take i++[l.getD i dF]:=by rw [List.take_add_one,List.getElem?_eq_getElem h,fS,List.getElem?_eq_getElem h];rfl
   have ha:=bBo (z:=z) (l:=l.take i) hq;rw [cL (show((i:Nat):Int) < (l.length:Int) by omega),cond_true];change pB (((mW (eQ z (l.take i))).1,(mW (eQ z (l.take i))).2.1,((mW (eQ z (l.take i))).2.2.1.1,(mW (eQ z (l.take i))).2.2.1.2.1,(mW (eQ z (l.take i))).2.2.1.2.2),(mW (eQ z (l.take i))).2.2.2.1,(mW (eQ z (l.take i))).2.2.2.2.1,(mW (eQ z (l.take i))).2.2.2.2.2.1,(mW (eQ z (l.take i))).2.2.2.2.2.2.1,(mW (eQ z (l.take i))).2.2.2.2.2.2.2.1,(mW (eQ z (l.take i))).2.2.2.2.2.2.2.2),(z.1,z.2.1,z.2.2)) (l.getD i dF)=_ at ha;rw [ha,←e];exact⟨_,rfl,⟨i+1,h,rfl⟩,by simp only;omega⟩
  ·right;rw [cV (show ¬((i:Nat):Int) < (l.length:Int) by omega),cond_false];refine⟨_,rfl,?_⟩;rw [List.take_of_length_le (show l.length<=i by omega)]
 ·simp only [List.take_zero,eQ,MxT.sQ,mW];rfl
theorem aO8 {l:fV} (hn:l.length<=96) {g:PN×Int->Int} (h:∀c∈l,-20000000<=g c/\g c<=20000000):W (MxT.sQ g l)=MxT.sQ g l/\-1920000000<=MxT.sQ g l/\MxT.sQ g l<=1920000000:=by
 have h1:=MxT.sQ_bd (g:=g) l h;have h2:(20000000:Int)*(l.length:Nat)<=20000000*96:=Int.mul_le_mul_of_nonneg_left (by omega) (by omega);exact⟨aG (by omega) (by omega),by omega,by omega⟩
theorem aBf {l:fV} (hv:xT l) {c:PN×Int} (hc:c∈l):vp c.1=0/\(-100<=c.2/\c.2<=100):=by
 obtain⟨j,hj,rfl⟩:=List.mem_iff_getElem.1 hc;have:=hv.2 j hj
 rwa [fS,List.getElem?_eq_getElem hj] at this
theorem aUv {l:fV} (hv:xT l) {z:P3} (hz:bd 64 z) {f g:P3->Int} (hf:f=MxT.pxF\/f=MxT.pyF\/f=MxT.pzF)(hg:g=MxT.pxF\/g=MxT.pyF\/g=MxT.pzF) {c:PN×Int} (hc:c∈l):(-38400<=gD f z c/\gD f z c<=38400)/\(-20000000<=gS f g z c/\gS f g z c<=20000000):=by
 obtain⟨hp,hq⟩:=aBf hv hc;obtain⟨⟨a1,a2,a3⟩,⟨b1,b2,b3⟩,c1,c2,c3⟩:=(aIr hp).1;obtain⟨z1',z2',z3'⟩:=hz;have comp:∀f:P3->Int,(f=MxT.pxF\/f=MxT.pyF\/f=MxT.pzF)->(-128<=f (MxT.rel z c.1).1/\f (MxT.rel z c.1).1<=128)/\(-128<=f (MxT.rel z c.1).2.1/\f (MxT.rel z c.1).2.1<=128)/\(-128<=f (MxT.rel z c.1).2.2/\f (MxT.rel z c.1).2.2<=128)/\(-384<=f (MxT.sm3 (MxT.rel z c.1))/\f (MxT.sm3 (MxT.rel z c.1))<=384):=by
  intro f hf;rcases hf with rfl | rfl | rfl<;>(simp only [MxT.rel,MxT.zsb,MxT.pxF,MxT.pyF,MxT.pzF,MxT.sm3];omega)
 obtain⟨f1,f2,f3,f4⟩:=comp f hf;obtain⟨g1,g2,g3,g4⟩:=comp g hg;have m1:=dN f1 g1;have m2:=dN f2 g2;have m3:=dN f3 g3;have m4:=dN f4 g4;have m5:=dN (a:=100) (b:=384) hq f4;have m6:=dN (a:=100) (b:=196608) hq (y:=MxT.kkF f g (MxT.rel z c.1)) (by unfold MxT.kkF;omega);unfold gD gS;exact⟨by omega,by omega⟩
theorem bBp {l:fV} (hv:xT l) {z:P3} (hz:bd 64 z):mW (eQ z l)=eQ z l:=by
 have hx:MxT.pxF=MxT.pxF\/MxT.pxF=MxT.pyF\/MxT.pxF=MxT.pzF:=.inl rfl;have hy:MxT.pyF=MxT.pxF\/MxT.pyF=MxT.pyF\/MxT.pyF=MxT.pzF:=.inr (.inl rfl);have hz':MxT.pzF=MxT.pxF\/MxT.pzF=MxT.pyF\/MxT.pzF=MxT.pzF:=.inr (.inr rfl);have k0:=(aO8 hv.1 (g:=fun c=>c.2) (fun c hc=>by have:=(aBf hv hc).2;omega)).1;have k1:=(aO8 hv.1 (g:=fun c=>MxT.aq c.2) (fun c hc=>by have:=(aBf hv hc).2;simp only [MxT.aq];split<;>omega)).1;have kd:=fun f hf=>(aO8 hv.1 (g:=gD f z) (fun c hc=>by have:=(aUv hv hz (f:=f) (g:=f) hf hf hc).1;omega)).1
 have ks:=fun f g hf hg=>(aO8 hv.1 (g:=gS f g z) (fun c hc=>(aUv hv hz (f:=f) (g:=g) hf hg hc).2)).1
 unfold mW eQ;simp only [k0,k1,kd _ hx,kd _ hy,kd _ hz',ks _ _ hx hx,ks _ _ hx hy,ks _ _ hx hz',ks _ _ hy hy,ks _ _ hy hz',ks _ _ hz' hz']
theorem bBq {l:fV} (hv:xT l) {z:P3} (hz:bd 64 z):jR l z=(eQ z l,0):=by
 have hch:mV l z=0:=by
  unfold mV;rw [aJs hv,(aGw (k:=64) (by omega)).2 hz];rfl
 unfold jR;rw [hch,aUu hv z,bBp hv hz];rfl
theorem aN1 {x n:Int} (h:-1099511627776<=sP x n/\sP x n<=1099511627776):sP x n=x*n:=by
 unfold sP at h ⊢;(repeat' split at h)<;>(repeat' split)<;>omega
theorem aN2 {a:Zs} {n:Int} {f:MxT.Fn} (ha:MxT.Enc a f)(hv:a.1<=a.2)(h:(rK (scl a n).1 (scl a n).2).2=0):MxT.Enc (rK (scl a n).1 (scl a n).2).1 (fun η v=>(n:Rat)*f η v):=by
 obtain⟨e,v1,v2,v3⟩:=aWd h;rw [e];simp only at v1 v2 v3;unfold scl at v1 v2 v3 ⊢;by_cases hn:n < 0
 ·rw [if_pos hn] at v1 v2 v3 ⊢;have s1:=aN1 (x:=a.2) (n:=n) (by simp only at *;omega);have s2:=aN1 (x:=a.1) (n:=n) (by simp only at *;omega);have m:=Int.mul_le_mul_of_nonpos_right hv (show n<=0 by omega);simp only [s1,s2];refine ha.scale (r:=(a.2*n,a.1*n)) (.inl ?_) ⟨?_,?_⟩ ⟨?_,?_⟩<;>simp only<;>(rw [Int.mul_comm n];omega)
 ·rw [if_neg hn] at v1 v2 v3 ⊢;have s1:=aN1 (x:=a.2) (n:=n) (by simp only at *;omega);have s2:=aN1 (x:=a.1) (n:=n) (by simp only at *;omega);have m:=Int.mul_le_mul_of_nonneg_right hv (show 0<=n by omega);simp only [s1,s2];refine ha.scale (r:=(a.1*n,a.2*n)) (.inl ?_) ⟨?_,?_⟩ ⟨?_,?_⟩<;>simp only<;>(rw [Int.mul_comm n];omega)
theorem aN3 {n:Int} (hn:1<=n):MxT.Enc (qZ 1 n) (fun η v=>1048576*(v n+η*η)):=by
 obtain⟨r,hr,_,r0,_,_,_,_,r5⟩:=qY (N:=NN 1) (n:=n) (aCu (.inl rfl)) hn;obtain⟨i0,i1,_⟩:=aQo (N:=NN 1) (n:=n) ⟨by decide,by decide⟩ hn;unfold qZ;rw [if_neg (by omega)];have e:inv (NN 1) n=(r,(inv (NN 1) n).2):=by rw [←hr];rfl
 rw [e];have hN:NN 1=1099511627776:=by decide
 rw [hN] at r5 i1;exact MxT.inv_enc hn r0 (by omega) r5 (by rw [hN];exact i1)
theorem aS2 {x d n:Int} (hd:0 < d)(hn:1<=n)(h:(tqV x d n).2=0):MxT.Enc (tqV x d n).1 (fun η v=>(x:Rat) / d*(1048576*(v n+η*η))):=by
 unfold tqV at h ⊢;split at h
 ·rename_i hq;rw [if_pos hq];obtain⟨e,_⟩:=aWd h;rw [e];have hv:=(wG (s:=1) (.inl rfl)).le n;refine MxT.quo_enc (n:=n) hd (aN3 hn) (q:=qsp x d) rfl hv (fun a ha b hb=>?_);obtain⟨l1,l2,l3,l4,_⟩:=aYd ml4 (qsp x d) (qZ 1 n);obtain⟨u1,u2,u3,u4,_⟩:=aYe mh4 (qsp x d) (qZ 1 n);simp only;have key:mn4 ml4 (qsp x d) (qZ 1 n)<=fl (a*b)/\ce (a*b)<=mx4 mh4 (qsp x d) (qZ 1 n):=by
   simp only [List.mem_cons,List.not_mem_nil,or_false] at ha hb;rcases ha with rfl | rfl<;>rcases hb with rfl | rfl
   ·exact⟨l1,u1⟩
   ·exact⟨l2,u2⟩
   ·exact⟨l3,u3⟩
   ·exact⟨l4,u4⟩
  have k1:=bA0 (a*b);have k2:=bA1 (a*b);omega
 ·exact absurd h (by show(4:Int)≠0;decide)
theorem aJt (u:P3):n2 u=MxT.ip u u:=rfl
theorem aUw {m:MOM} {u:P3} {L K E:Int} (hu:UOK u)(h1:dB m.2.2.1 u=L)(h2:W ((W (3*aAt m u)) - (W (n2 u*aAr m)))=3*K - n2 u*E) {k:Int} (h:(gZ m u k).2=0) :
 MxT.Enc (gZ m u k).1 (fun η v=>1048576*(v (MxT.ip u u)+η*η)*(if k=0 then(m.1:Rat) else if k=1 then(L:Rat) / (3*(MxT.ip u u:Rat)) else(3*(K:Rat) - (MxT.ip u u:Rat)*E) / (24*(MxT.ip u u:Rat)*(MxT.ip u u:Rat)))):=by
 obtain⟨hn,_⟩:=aAf hu;unfold gZ at h ⊢;by_cases k0:k=0
 ·rw [if_pos k0] at h ⊢;simp only [if_pos k0];refine(aN2 (aN3 hn) ((wG (s:=1) (.inl rfl)).le _) h).congr (fun η v=>?_);rw [aJt];grind
 ·rw [if_neg k0] at h ⊢;simp only [if_neg k0];by_cases k1:k=1
  ·rw [if_pos k1] at h ⊢;simp only [if_pos k1];refine(aS2 (by omega) hn h).congr (fun η v=>?_);rw [h1,aJt,Rat.intCast_mul];have e3:((3:Int):Rat)=3:=rfl;rw [e3];grind
  ·rw [if_neg k1] at h ⊢;simp only [if_neg k1];have hp:=Int.mul_pos (show 0 < n2 u by omega) (show 0 < n2 u by omega);refine(aS2 (by omega) hn h).congr (fun η v=>?_);rw [h2,aJt,Rat.intCast_mul,Rat.intCast_mul,Rat.intCast_sub,Rat.intCast_mul,Rat.intCast_mul];have e3:((3:Int):Rat)=3:=rfl;have e24:((24:Int):Rat)=24:=rfl;rw [e3,e24,show(24:Rat)*((MxT.ip u u:Rat)*(MxT.ip u u:Rat))=24*(MxT.ip u u:Rat)*(MxT.ip u u:Rat) by grind];grind
theorem aYz {m:MOM} {u:P3} {L K E o:Int} (hu:UOK u)(ho:0<=o/\o<=2)(h1:dB m.2.2.1 u=L)(h2:W ((W (3*aAt m u)) - (W (n2 u*aAr m)))=3*K - n2 u*E)(h:(vlV m u o).2=0) :
 MxT.Enc (vlV m u o).1 (fun η v=>1048576*(v (MxT.ip u u)+η*η)*MxT.gP o (MxT.ip u u:Rat) m.1 L K E)/\vs (vlV m u o).1:=by
 have t:=fun k=>aUw (m:=m) (k:=k) hu h1 h2
 unfold vlV at h ⊢;split at h
 ·exact absurd h (by show(4:Int)≠0;decide)
 rename_i k0;rw [if_neg k0];have e0:=t 0 (Decidable.not_not.1 k0);split at h
 ·rename_i o0;rw [if_pos o0];obtain⟨e,hv⟩:=aCx h;rw [e];refine⟨(MxT.Enc.zero.add e0).congr (fun η v=>?_),hv⟩;rw [if_pos rfl];unfold MxT.gP;rw [if_pos o0];grind
 rename_i o0;rw [if_neg o0];split at h
 ·exact absurd h (by show(4:Int)≠0;decide)
 rename_i k1;rw [if_neg k1];have e1:=t 1 (Decidable.not_not.1 k1);split at h
 ·rename_i o1;rw [if_pos o1];obtain⟨e,hv⟩:=aCx h;rw [e];refine⟨((MxT.Enc.zero.add e0).add e1).congr (fun η v=>?_),hv⟩;rw [if_pos rfl,if_neg (by decide),if_pos rfl];unfold MxT.gP;rw [if_neg o0,if_pos o1];grind
 rename_i o1;rw [if_neg o1];split at h
 ·exact absurd h (by show(4:Int)≠0;decide)
 rename_i k2;rw [if_neg k2];have e2:=t 2 (Decidable.not_not.1 k2);obtain⟨e,hv⟩:=aCx h;rw [e];refine⟨(((MxT.Enc.zero.add e0).add e1).add e2).congr (fun η v=>?_),hv⟩;rw [if_pos rfl,if_neg (by decide),if_pos rfl,if_neg (by decide),if_neg (by decide)];unfold MxT.gP;rw [if_neg o0,if_neg o1];grind
theorem aDt {a d:Int} (ha:0<=a/\a<=2305843009213693952)(hd:0 < d/\d<=2147483648):a<=lT a d*d/\0<=lT a d/\(∀k:Int,a<=k*d->lT a d<=k):=by
 unfold lT;rw [aG (n:=a+d) (by omega) (by omega),aG (n:=a+d - 1) (by omega) (by omega),Int.tdiv_eq_ediv_of_nonneg (by omega)];have h0:0<=(a+d - 1) / d:=Int.ediv_nonneg (by omega) (by omega);have h1:(a+d - 1) / d<=a+d - 1:=Int.ediv_le_self _ (by omega);have h2:=Int.mul_ediv_add_emod (a+d - 1) d;have h3:=Int.emod_lt_of_pos (a+d - 1) (show 0 < d by omega);rw [aG (by omega) (by omega),Int.mul_comm];refine⟨by omega,h0,fun k hk=>?_⟩;have:(a+d - 1) / d < k+1:=Int.ediv_lt_of_lt_mul (by omega) (by rw [Int.add_mul,Int.one_mul];omega);omega
theorem aS3 {T pF o:Int} {u:P3} (h:(sS T pF u o).2=0):∃A R e:Int,0<=A/\A < R/\pF*1099511627776<=A*A/\R*R<=n2 u*1099511627776/\0<=e/\(1048576:Rat)*MxT.pwF o ((A:Rat) / R)<=e/\T*e*1048576<=(sS T pF u o).1*(R - A)/\0<=(sS T pF u o).1/\(sS T pF u o).1<=1099511627776:=by
 unfold sS at h ⊢;cases b1:(!rC T 0 1048576) with
 | true=>rw [b1,cond_true] at h;exact absurd h (by decide)
 | false =>
 rw [b1,cond_false] at h;cases b2:(!rC pF 0 131072) with
 | true=>rw [b2,cond_true] at h;exact absurd h (by decide)
 | false =>
 rw [b2,cond_false] at h;cases b3:(!F91 u 384) with
 | true=>rw [b3,cond_true] at h;exact absurd h (by decide)
 | false =>
 rw [b3,cond_false] at h;cases b4:(!rC o 0 2) with
 | true=>rw [b4,cond_true] at h;exact absurd h (by decide)
 | false =>
 rw [b4,cond_false] at h;simp only [cond_false];have hT:=aFi b1;have hr:=aFi b2;have ho:=aFi b4;have hb:=(aGw (p:=u) (k:=384) (by omega)).1 (by simpa using b3);obtain⟨s1,s2,_⟩:=xW hb.1;obtain⟨s3,s4,_⟩:=xW hb.2.1;obtain⟨s5,s6,_⟩:=xW hb.2.2;have hn:0<=n2 u/\n2 u<=442368:=by unfold n2;omega
 have eA:W ((W (pF*1048576))*1048576)=pF*1099511627776:=by rw [aG (n:=pF*1048576) (by omega) (by omega),aG (by omega) (by omega)];omega
 have eR:W ((W ((dB u u)*1048576))*1048576)=n2 u*1099511627776:=by rw [aDm hb,aG (n:=n2 u*1048576) (by omega) (by omega),aG (by omega) (by omega)];omega
 obtain⟨R,hR⟩:∃R,R=pJ (n2 u*1099511627776):=⟨_,rfl⟩;obtain⟨r0,r1,r2,_⟩:=aNn (n:=n2 u*1099511627776) (by omega) (by omega);rw [←hR] at r0 r1 r2;obtain⟨a0,a1,a2,a3⟩:=aNn (n:=pF*1099511627776) (by omega) (by omega);have fin:∀A:Int,0<=A->A<=2147483648->pF*1099511627776<=A*A->(lU T pF u o A).2=0->∃A' R' e:Int,0<=A'/\A' < R'/\pF*1099511627776<=A'*A'/\R'*R'<=n2 u*1099511627776/\0<=e/\(1048576:Rat)*MxT.pwF o ((A':Rat) / R')<=e/\T*e*1048576<=(lU T pF u o A).1*(R' - A')/\0<=(lU T pF u o A).1/\(lU T pF u o A).1<=1099511627776:=by
  intro A hA hA1 hsq hs;have hrr:pJ (W ((W ((dB u u)*1048576))*1048576))=R:=by rw [eR,hR]
  rw [bA9 ho hrr] at hs ⊢;by_cases hc:R<=A
  ·rw [cL hc,cond_true] at hs;exact absurd hs (by show(10:Int)≠0;decide)
  ·rw [cV hc,cond_false] at hs ⊢;have hAR:A < R:=by omega
   have hup:rI=lT:=rfl;have tq:MxT.pwF o ((A:Rat) / R)=MxT.pwF o ((A:Rat) / R):=rfl;have nn:=MxT.ar_nnF hA (show 0 < R by omega);obtain⟨t1,t2,t3⟩:=aDt (a:=A*1048576) (d:=R) (by omega) (by omega);have t4:=t3 1048576 (by omega);have p1:=MxT.pw_t (show 0 < R by omega) t1;obtain⟨t,ht⟩:∃t,t=lT (A*1048576) R:=⟨_,rfl⟩;rw [←ht] at t1 t2 t4 p1;have last:∀e:Int,0<=e->e<=1048576->(1048576:Rat)*MxT.pwF o ((A:Rat) / R)<=e->(aEr T R A e).2=0->∃A' R' e':Int,0<=A'/\A' < R'/\pF*1099511627776<=A'*A'/\R'*R'<=n2 u*1099511627776/\0<=e'/\(1048576:Rat)*MxT.pwF o ((A':Rat) / R')<=e'/\T*e'*1048576<=(aEr T R A e).1*(R' - A')/\0<=(aEr T R A e).1/\(aEr T R A e).1<=1099511627776:=by
    intro e e0 e1 ep he;have m1:=dN (a:=1048576) (b:=1048576) (x:=T) (y:=e) (by omega) (by omega);have m0:0<=T*e:=Int.mul_nonneg hT.1 e0;unfold aEr at he ⊢;rw [hup,aG (n:=T*e) (by omega) (by omega),aG (n:=T*e*1048576) (by omega) (by omega),aG (n:=R - A) (by omega) (by omega)] at he ⊢;obtain⟨o1,o2,_⟩:=aDt (a:=T*e*1048576) (d:=R - A) (by omega) (by omega);by_cases hbig:lT (T*e*1048576) (R - A) > 1099511627776
    ·rw [cL hbig,cond_true] at he;exact absurd he (by show(4:Int)≠0;decide)
    ·rw [cV hbig,cond_false];exact⟨A,R,e,hA,hAR,hsq,r2,e0,ep,o1,o2,by simp only;omega⟩
   have nxt:∀e:Int,0<=e->e<=1048576->e*t<=lT (W (e*t)) 1048576*1048576/\0<=lT (W (e*t)) 1048576/\lT (W (e*t)) 1048576<=1048576:=by
    intro e e0 e1;have m1:=dN (a:=1048576) (b:=1048576) (x:=e) (y:=t) (by omega) (by omega);have m0:0<=e*t:=Int.mul_nonneg e0 t2;rw [aG (by omega) (by omega)];obtain⟨o1,o2,o3⟩:=aDt (a:=e*t) (d:=1048576) (by omega) (by omega);exact⟨o1,o2,o3 1048576 (by omega)⟩
   unfold aYk at hs ⊢;rw [hup,aG (n:=A*1048576) (by omega) (by omega),←ht] at hs ⊢;obtain⟨k1,k2,k3⟩:=nxt t t2 t4;have p2:=MxT.pw_s nn nn p1 p1 k1;obtain⟨e,he⟩:∃e,e=lT (W (t*t)) 1048576:=⟨_,rfl⟩;rw [←he] at k1 k2 k3 p2 hs ⊢;obtain⟨j1,j2,j3⟩:=nxt e k2 k3;have p3:=MxT.pw_s (MxT.qmul nn nn) nn p2 p1 j1;by_cases o0:o=0
   ·rw [if_pos o0] at hs ⊢;exact last t t2 t4 (by unfold MxT.pwF;rw [if_pos o0];exact p1) hs
   ·rw [if_neg o0] at hs ⊢;by_cases o1:o=1
    ·rw [if_pos o1] at hs ⊢;exact last e k2 k3 (by unfold MxT.pwF;rw [if_neg o0,if_pos o1];exact p2) hs
    ·rw [if_neg o1] at hs ⊢;exact last _ j2 j3 (by unfold MxT.pwF;rw [if_neg o0,if_neg o1];exact p3) hs
 rw [eA] at h ⊢;obtain⟨q,hq⟩:∃q,q=pJ (pF*1099511627776):=⟨_,rfl⟩;rw [←hq] at h a0 a1 a2 a3 ⊢;have qb:=dN (a:=2147483648) (b:=2147483648) (x:=q) (y:=q) (by omega) (by omega);have q0:0<=q*q:=Int.mul_nonneg a0 a0;rw [aG (n:=q*q) (by omega) (by omega)] at h ⊢;by_cases hc:q*q < pF*1099511627776
 ·rw [cL hc,cond_true] at h ⊢;rw [aG (n:=q+1) (by omega) (by omega)] at h ⊢;exact fin (q+1) (by omega) (by omega) (by omega) h
 ·rw [cV hc,cond_false] at h ⊢;exact fin q a0 (by omega) (by omega) h
def InB (c:P3)(R:Int)(p:PN):Prop:=ds p.1 c<=R/\ds p.2.1 c<=R/\ds p.2.2 c<=R
noncomputable def pS (v:Int->Rat)(x:P3):fV->Rat | []=>0 | c::l=>c.2*S0 v x c.1+pS v x l
theorem aDu (v:Int->Rat)(x:P3):∀l m:fV,pS v x (l++m)=pS v x l+pS v x m
 | [],m=>by simp only [List.nil_append,pS];grind
 | c::l,m=>by simp only [List.cons_append,pS,aDu v x l m];grind
theorem aUx (v:Int->Rat)(x:P3) {l m:fV} (h:l.Perm m):pS v x l=pS v x m:=by
 induction h with
 | nil=>rfl
 | cons c _ ih=>simp only [pS,ih]
 | swap a b l=>simp only [pS];grind
 | trans _ _ h1 h2=>exact h1.trans h2
theorem aWn (v:Int->Rat)(x z:P3):∀l:fV,MxT.QV v (MxT.zsb x z) (l.map fun c=>(c.2,MxT.YL z c.1))=pS v x l
 | []=>rfl
 | c::l=>by simp only [List.map_cons,MxT.QV,pS,MxT.SV_YL,S0,aWn v x z l]
theorem aY0 {l:fV} (hv:xT l) {z u:P3} (hz:bd 64 z)(hu:UOK u):dB (eQ z l).2.2.1 u=MxT.sQ (fun c=>c.2*MxT.l3 u (MxT.ip u z) c.1) l:=by
 have hx:MxT.pxF=MxT.pxF\/MxT.pxF=MxT.pyF\/MxT.pxF=MxT.pzF:=.inl rfl;have hy:MxT.pyF=MxT.pxF\/MxT.pyF=MxT.pyF\/MxT.pyF=MxT.pzF:=.inr (.inl rfl);have hz':MxT.pzF=MxT.pxF\/MxT.pzF=MxT.pyF\/MxT.pzF=MxT.pzF:=.inr (.inr rfl);have kd:=fun f hf=>(aO8 hv.1 (g:=gD f z) (fun c hc=>by have:=(aUv hv hz (f:=f) (g:=f) hf hf hc).1;omega)).2
 have b1:=kd _ hx;have b2:=kd _ hy;have b3:=kd _ hz';have e:=MxT.sQ_lin u z l;rw [e];unfold dB eQ;obtain⟨u1,u2,u3⟩:=hu.bd;have m1:=dN (a:=1920000000) (b:=384) (show -1920000000<=MxT.sQ (gD MxT.pxF z) l/\MxT.sQ (gD MxT.pxF z) l<=1920000000 by omega) u1;have m2:=dN (a:=1920000000) (b:=384) (show -1920000000<=MxT.sQ (gD MxT.pyF z) l/\MxT.sQ (gD MxT.pyF z) l<=1920000000 by omega) u2;have m3:=dN (a:=1920000000) (b:=384) (show -1920000000<=MxT.sQ (gD MxT.pzF z) l/\MxT.sQ (gD MxT.pzF z) l<=1920000000 by omega) u3;simp only [WaL,WaR];change W (MxT.sQ (gD MxT.pxF z) l*u.1+MxT.sQ (gD MxT.pyF z) l*u.2.1+MxT.sQ (gD MxT.pzF z) l*u.2.2)=u.1*MxT.sQ (gD MxT.pxF z) l+u.2.1*MxT.sQ (gD MxT.pyF z) l+u.2.2*MxT.sQ (gD MxT.pzF z) l;rw [aG (by omega) (by omega),Int.mul_comm u.1,Int.mul_comm u.2.1,Int.mul_comm u.2.2]
theorem uN {a b s:Int} (ha:-384<=a/\a<=384)(hb:-384<=b/\b<=384)(hs:-1920000000<=s/\s<=1920000000):-283115520000000<=a*b*s/\a*b*s<=283115520000000:=by
 have m1:=dN (a:=384) (b:=384) ha hb;have m2:=dN (a:=147456) (b:=1920000000) (x:=a*b) (y:=s) (by omega) hs;omega
theorem aUy {l:fV} (hv:xT l) {z u:P3} (hz:bd 64 z)(hu:UOK u):W ((W (3*aAt (eQ z l) u)) - (W (n2 u*aAr (eQ z l))))=3*MxT.sQ (fun c=>c.2*MxT.k3 u (MxT.ip u z) c.1) l - n2 u*MxT.sQ (fun c=>c.2*(MxT.k3 MxT.ex (MxT.ip MxT.ex z) c.1+MxT.k3 MxT.ey (MxT.ip MxT.ey z) c.1+MxT.k3 MxT.ez (MxT.ip MxT.ez z) c.1)) l:=by
 have hx:MxT.pxF=MxT.pxF\/MxT.pxF=MxT.pyF\/MxT.pxF=MxT.pzF:=.inl rfl;have hy:MxT.pyF=MxT.pxF\/MxT.pyF=MxT.pyF\/MxT.pyF=MxT.pzF:=.inr (.inl rfl);have hz':MxT.pzF=MxT.pxF\/MxT.pzF=MxT.pyF\/MxT.pzF=MxT.pzF:=.inr (.inr rfl);have ks:=fun f g hf hg=>(aO8 hv.1 (g:=gS f g z) (fun c hc=>(aUv hv hz (f:=f) (g:=g) hf hg hc).2)).2
 have c0:=ks _ _ hx hx;have c1:=ks _ _ hx hy;have c2:=ks _ _ hx hz';have c3:=ks _ _ hy hy;have c4:=ks _ _ hy hz';have c5:=ks _ _ hz' hz';have e1:=MxT.sQ_quad u z l;have e2:=MxT.sQ_tr z l;rw [e1,e2];obtain⟨u1,u2,u3⟩:=hu.bd;obtain⟨n0,n1⟩:=aAf hu;change _=3*(u.1*u.1*MxT.sQ (gS MxT.pxF MxT.pxF z) l+u.1*u.2.1*2*MxT.sQ (gS MxT.pxF MxT.pyF z) l+u.1*u.2.2*2*MxT.sQ (gS MxT.pxF MxT.pzF z) l+u.2.1*u.2.1*MxT.sQ (gS MxT.pyF MxT.pyF z) l+u.2.1*u.2.2*2*MxT.sQ (gS MxT.pyF MxT.pzF z) l+u.2.2*u.2.2*MxT.sQ (gS MxT.pzF MxT.pzF z) l) - n2 u*(MxT.sQ (gS MxT.pxF MxT.pxF z) l+MxT.sQ (gS MxT.pyF MxT.pyF z) l+MxT.sQ (gS MxT.pzF MxT.pzF z) l);unfold aAt aAr kA eQ;simp only [WaL,WaR,WmL,WmR,WsL,WsR];generalize MxT.sQ (gS MxT.pxF MxT.pxF z) l=m0 at *;generalize MxT.sQ (gS MxT.pxF MxT.pyF z) l=m1 at *;generalize MxT.sQ (gS MxT.pxF MxT.pzF z) l=m2 at *;generalize MxT.sQ (gS MxT.pyF MxT.pyF z) l=m3 at *;generalize MxT.sQ (gS MxT.pyF MxT.pzF z) l=m4 at *;generalize MxT.sQ (gS MxT.pzF MxT.pzF z) l=m5 at *;generalize n2 u=n at *;have b0:=uN u1 u1 c0;have b1:=uN u1 u2 c1;have b2:=uN u1 u3 c2;have b3:=uN u2 u2 c3;have b4:=uN u2 u3 c4;have b5:=uN u3 u3 c5;have bn:=dN (a:=442368) (b:=5760000000) (x:=n) (y:=m0+m3+m5) (by omega) (by omega);have key:∀X Y:Int,X=Y->-9223372036854775808<=Y->Y < 9223372036854775808->W X=Y:=fun X Y h h1 h2=>by rw [h];exact aG h1 h2
 refine key _ _ (by clear b0 b1 b2 b3 b4 b5 bn;grind) ?_ ?_
 ·rw [show 3*(u.1*u.1*m0+u.1*u.2.1*2*m1+u.1*u.2.2*2*m2+u.2.1*u.2.1*m3+u.2.1*u.2.2*2*m4+u.2.2*u.2.2*m5) - n*(m0+m3+m5)=3*(u.1*u.1*m0+2*(u.1*u.2.1*m1)+2*(u.1*u.2.2*m2)+u.2.1*u.2.1*m3+2*(u.2.1*u.2.2*m4)+u.2.2*u.2.2*m5) - n*(m0+m3+m5) by clear b0 b1 b2 b3 b4 b5 bn;grind];omega
 ·rw [show 3*(u.1*u.1*m0+u.1*u.2.1*2*m1+u.1*u.2.2*2*m2+u.2.1*u.2.1*m3+u.2.1*u.2.2*2*m4+u.2.2*u.2.2*m5) - n*(m0+m3+m5)=3*(u.1*u.1*m0+2*(u.1*u.2.1*m1)+2*(u.1*u.2.2*m2)+u.2.1*u.2.1*m3+2*(u.2.1*u.2.2*m4)+u.2.2*u.2.2*m5) - n*(m0+m3+m5) by clear b0 b1 b2 b3 b4 b5 bn;grind];omega
theorem aS4 {p:PN} (hp:bdP 64 p) {z:P3} {pF:Int} (hr:0<=pF)(hb:InB z pF p) {Y:P3} (hY:Y∈MxT.YL z p):MxT.ip Y Y<=256*pF:=by
 unfold MxT.YL at hY;obtain⟨P,hP,rfl⟩:=List.mem_map.1 hY;obtain⟨g1,_⟩:=aS0 (c:=p) (k:=3) (hp.mono (by omega)) (by omega) (x:=z) hP;have hf:fa p z<=pF:=tH (tH (tH hr hb.1) hb.2.1) hb.2.2;have e:MxT.ip (MxT.zsb P (MxT.ztm 16 z)) (MxT.zsb P (MxT.ztm 16 z))=ds P (tm (2 ^ (3+1)) z):=by unfold MxT.ip MxT.zsb MxT.ztm ds dt sb tm;rfl
 have e4:(4:Int) ^ (3+1)=256:=by decide
 rw [e4] at g1;rw [e];omega
theorem aUz {l:fV} (hv:xT l) {z x:P3} (hz:bd 64 z) {pF o:Int} (hr:0<=pF)(hb:∀c∈l,InB z pF c.1)(h:(F26 (eQ z l) pF (MxT.zsb x z) o).2=0) :
 MxT.Enc (F26 (eQ z l) pF (MxT.zsb x z) o).1 (fun η v=>1048576 / 12*pS v x l)/\vs (F26 (eQ z l) pF (MxT.zsb x z) o).1:=by
 unfold F26 at h ⊢;cases h1:(((F53 (eQ z l) (MxT.zsb x z) o).2:Int) != 0) with
 | true=>rw [h1,cond_true] at h;exact absurd h (bne_iff_ne.1 h1)
 | false =>
 rw [h1,cond_false] at h;cases h2:(((sS (eQ z l).2.1 pF (MxT.zsb x z) o).2:Int) != 0) with
 | true=>rw [h2,cond_true] at h;exact absurd h (bne_iff_ne.1 h2)
 | false =>
 rw [h2,cond_false] at h;have hval:=bne_eq_false_iff_eq.1 h1;have hrst:=bne_eq_false_iff_eq.1 h2;have hvl:((F95 (eQ z l) (MxT.zsb x z) o:Int) != 0)=false:=by
  cases h3:((F95 (eQ z l) (MxT.zsb x z) o:Int) != 0)
  case false=>rfl
  unfold F53 at hval;rw [h3,cond_true] at hval;exact absurd hval (bne_iff_ne.1 h3)
 obtain⟨hmv,hu,ho⟩:=aSa hvl;have eval:F53 (eQ z l) (MxT.zsb x z) o=vlV (eQ z l) (MxT.zsb x z) o:=by
  unfold F53;rw [hvl,cond_false];exact bDl (by rw [←aWf];exact hmv) hu ho
 rw [eval] at hval h ⊢;obtain⟨he,hvs⟩:=aYz hu ho (aY0 hv hz hu) (aUy hv hz hu) hval;obtain⟨A,R,e,a0,a1,a2,a3,a4,a5,a6,a7,a8⟩:=aS3 hrst;obtain⟨hn,_⟩:=aAf hu;have hT:(eQ z l).2.1=MxT.QQ (l.map fun c=>(c.2,MxT.YL z c.1)):=(MxT.QQ_sum _ l).symm;rw [hT] at a6;have H:MxT.FarH (MxT.zsb x z) A R 1048576:=⟨hn,a0,a1,by decide,by
  have a3':=Rat.intCast_le_intCast.2 a3;rw [Rat.intCast_mul,Rat.intCast_mul,aJt] at a3';have e1:((1099511627776:Int):Rat)=1048576*1048576:=by
   have:((1099511627776:Int):Rat)=1099511627776:=rfl;rw [this];grind
  rw [e1] at a3';exact a3'⟩
 have hl:∀c∈l.map (fun c:PN×Int=>(c.2,MxT.YL z c.1)),c.2.length=192/\∀Y∈c.2,MxT.ip Y Y*(R*R)<=256*MxT.ip (MxT.zsb x z) (MxT.zsb x z)*(A*A):=by
  intro c hc;obtain⟨c,hm,rfl⟩:=List.mem_map.1 hc;refine⟨MxT.YL_len z c.1,fun Y hY=>?_⟩;have k1:=aS4 ((aIr (aBf hv hm).1).1) hr (hb c hm) hY;have k2:=Int.mul_le_mul_of_nonneg_right k1 (show 0<=R*R from Int.mul_nonneg (by omega) (by omega));have k3:=Int.mul_le_mul_of_nonneg_left a3 hr;have k4:=Int.mul_le_mul_of_nonneg_left a2 (show 0<=n2 (MxT.zsb x z) by omega);rw [aJt] at k3 k4;have k5:pF*(R*R)<=MxT.ip (MxT.zsb x z) (MxT.zsb x z)*(A*A):=by
   have m:pF*(MxT.ip (MxT.zsb x z) (MxT.zsb x z)*1099511627776)=MxT.ip (MxT.zsb x z) (MxT.zsb x z)*(pF*1099511627776):=by grind
   omega
  have k6:256*pF*(R*R)=256*(pF*(R*R)):=Int.mul_assoc _ _ _;have k7:256*MxT.ip (MxT.zsb x z) (MxT.zsb x z)*(A*A)=256*(MxT.ip (MxT.zsb x z) (MxT.zsb x z)*(A*A)):=Int.mul_assoc _ _ _;omega
 have hfar:=MxT.far_enc H hl he (MxT.QT_sum o (MxT.zsb x z) z hn l).symm a5 (Int.le_refl _) a4 a6;rw [show W ((vlV (eQ z l) (MxT.zsb x z) o).1.1 - (sS (eQ z l).2.1 pF (MxT.zsb x z) o).1)=(vlV (eQ z l) (MxT.zsb x z) o).1.1 - (sS (eQ z l).2.1 pF (MxT.zsb x z) o).1 from aG (by unfold vs at hvs;omega) (by unfold vs at hvs;omega),show W ((vlV (eQ z l) (MxT.zsb x z) o).1.2+(sS (eQ z l).2.1 pF (MxT.zsb x z) o).1)=(vlV (eQ z l) (MxT.zsb x z) o).1.2+(sS (eQ z l).2.1 pF (MxT.zsb x z) o).1 from aG (by unfold vs at hvs;omega) (by unfold vs at hvs;omega)] at h ⊢;simp only [cond_false];cases h4:rU ((vlV (eQ z l) (MxT.zsb x z) o).1.1 - (sS (eQ z l).2.1 pF (MxT.zsb x z) o).1,(vlV (eQ z l) (MxT.zsb x z) o).1.2+(sS (eQ z l).2.1 pF (MxT.zsb x z) o).1)
 case false=>rw [h4] at h;exact absurd h (by show(4:Int)≠0;decide)
 rw [←hT] at hfar;exact⟨hfar.congr (fun η v=>by rw [aWn]),(aG4 _).1 h4⟩
theorem aHh (v:List Zs)(a:Zs):nP (v++[a]) (0,0)=((nP v (0,0)).1+a.1,(nP v (0,0)).2+a.2):=by
 simp only [aGg,List.map_append,List.sum_append,List.map_cons,List.map_nil,List.sum_cons,List.sum_nil,Int.add_zero,Int.add_assoc]
theorem aS5 {c:PN×Int} (hq:-100<=c.2/\c.2<=100) {x:P3} {d:Int} (h1:(zU c.1 x d).2=0)(h2:(wL (zU c.1 x d).1 c.2).2=0) :
 MxT.Enc (wL (zU c.1 x d).1 c.2).1 (fun η v=>1048576 / 12*(c.2*S0 v x c.1))/\vs (wL (zU c.1 x d).1 c.2).1:=by
 refine⟨?_,aQr h2⟩;rw [aXk] at h1 h2 ⊢;have hm:=aS1 h1;have hv:=(aIy (of:=qZ) (fun s hs=>wG hs) h1).2;rw [aMm hv (by omega)] at h2 ⊢;exact(aN2 hm hv.2.1 h2).congr (fun η v=>by grind)
theorem aN4 {l:fV} {x:P3} {d:Int} (h:(dX l x d).2=0):MxT.Enc (dX l x d).1 (fun η v=>1048576 / 12*pS v x l)/\vs (dX l x d).1:=by
 unfold dX at h ⊢;cases h1:((gL l:Int) != 0) with
 | true=>rw [h1,cond_true] at h;exact absurd h (bne_iff_ne.1 h1)
 | false =>
 rw [h1,cond_false] at h;have hv:=zD (bne_eq_false_iff_eq.1 h1);cases h2:(!(F40 x)) with
 | true=>rw [h2,cond_true] at h;exact absurd h (by decide)
 | false =>
 rw [h2,cond_false] at h;cases h3:(!(F41 d 0 3)) with
 | true=>rw [h3,cond_true] at h;exact absurd h (by decide)
 | false =>
 rw [h3,cond_false] at h;simp only [cond_false];refine(jQ (S:=jP l x d) (fun s=>tN ((l.length:Nat) - s.2)) (fun s=>∃k:Nat,s.2=(k:Int)/\k<=l.length/\(∀a∈s.1,vs a)/\s.1.length<=k/\MxT.Enc (nP s.1 (0,0)) (fun η v=>1048576 / 12*pS v x (l.take k))) (fun r=>r.2=0->MxT.Enc r.1 (fun η v=>1048576 / 12*pS v x l)/\vs r.1) (fun s hs=>?_) _ _ ⟨0,rfl,Nat.zero_le _,(fun a ha=>absurd ha List.not_mem_nil),Nat.le_refl _,?_⟩ (by simp only;omega)) h
 ·obtain⟨w,i⟩:=s;obtain⟨k,rfl,k1,k2,k3,k4⟩:=hs;simp only at k2 k3 k4;simp only [jP,iH];by_cases hk:k < l.length
  ·rw [cL (show((k:Nat):Int) < (l.length:Int) by omega),cond_true];have hq:=(hv.2 k hk).2;have e:l.take (k+1)=l.take k++[l.getD k dF]:=by rw [List.take_add_one,List.getElem?_eq_getElem hk,fS,List.getElem?_eq_getElem hk];rfl
   generalize l.getD k dF=c at *;cases g1:(((zU c.1 x d).2:Int) != 0) with
   | true=>right;rw [cond_true];exact⟨_,rfl,fun hr=>absurd hr (bne_iff_ne.1 g1)⟩
   | false =>
   cases g2:(((wL (zU c.1 x d).1 c.2).2:Int) != 0) with
   | true=>right;rw [cond_false,cond_true];exact⟨_,rfl,fun hr=>absurd hr (bne_iff_ne.1 g2)⟩
   | false =>
   left;rw [cond_false,cond_false];obtain⟨n1,n2⟩:=aS5 hq (bne_eq_false_iff_eq.1 g1) (bne_eq_false_iff_eq.1 g2);refine⟨_,rfl,⟨k+1,rfl,hk,fun a ha=>?_,by simp only [List.length_append,List.length_cons,List.length_nil];omega,?_⟩,by simp only;omega⟩
   ·rcases List.mem_append.1 ha with ha | ha
    ·exact k2 a ha
    ·rw [List.mem_singleton.1 ha];exact n2
   ·rw [aHh,e];exact(k4.add n1).congr (fun η v=>by rw [aDu];simp only [pS];grind)
  ·right;rw [cV (show ¬((k:Nat):Int) < (l.length:Int) by omega),cond_false];refine⟨_,rfl,fun hr=>?_⟩;have hl:=hv.1;rw [aQq k2 (by omega)] at hr ⊢;obtain⟨e,hvs⟩:=aCx hr;rw [e];rw [List.take_of_length_le (show l.length<=k by omega)] at k4;exact⟨k4,hvs⟩
 ·exact MxT.Enc.zero.congr (fun η v=>by simp only [List.take_zero,pS];grind)
theorem aY1 {p q:P3} (hp:bd 64 p)(hq:bd 64 q):uQ (F34 p q)=ds p q:=by
 obtain⟨a1,a2,a3⟩:=hp;obtain⟨b1,b2,b3⟩:=hq;have e:F34 p q=sb p q:=by
  unfold F34;rw [aG (n:=p.1 - q.1) (by omega) (by omega),aG (n:=p.2.1 - q.2.1) (by omega) (by omega),aG (n:=p.2.2 - q.2.2) (by omega) (by omega)];rfl
 rw [e,bAz ⟨by show -384<=p.1 - q.1/\p.1 - q.1<=384;omega,by show -384<=p.2.1 - q.2.1/\p.2.1 - q.2.1<=384;omega,by show -384<=p.2.2 - q.2.2/\p.2.2 - q.2.2<=384;omega⟩];rfl
theorem aN5 {m:fV} (hm:∀j,j < m.length->bdP 64 (m.getD j dF).1) {c:P3} (hc:bd 64 c):∀(d i n:Nat) (v:Int),d=m.length - i->i<=m.length->d < n ->
 v<=(aE (pT m c) n (v,(i:Int))).1/\∀j,i<=j->j < m.length->InB c (aE (pT m c) n (v,(i:Int))).1 (m.getD j dF).1
 | 0,i,n,v,hd,hi,hn=>by
  obtain⟨n,rfl⟩:∃k,n=k+1:=⟨n - 1,by omega⟩;have e:pT m c (v,(i:Int))=.inr (v,0):=by
   simp only [pT];rw [cV (by omega),cond_false]
  rw [aM e];exact⟨Int.le_refl _,fun j h1 h2=>absurd h2 (by omega)⟩
 | d+1,i,n,v,hd,hi,hn=>by
  obtain⟨n,rfl⟩:∃k,n=k+1:=⟨n - 1,by omega⟩;have hb:=hm i (by omega);have e:pT m c (v,(i:Int))=.inl (mx (mx (mx v (ds (m.getD i dF).1.1 c)) (ds (m.getD i dF).1.2.1 c)) (ds (m.getD i dF).1.2.2 c),((i+1:Nat):Int)):=by
   simp only [pT,iH];rw [cL (by omega),cond_true,aY1 hb.1 hc,aY1 hb.2.1 hc,aY1 hb.2.2 hc];rfl
  rw [aD e];obtain⟨k1,k2⟩:=aN5 hm hc d (i+1) n (mx (mx (mx v (ds (m.getD i dF).1.1 c)) (ds (m.getD i dF).1.2.1 c)) (ds (m.getD i dF).1.2.2 c)) (by omega) (by omega) (by omega);have m1:=lN v (ds (m.getD i dF).1.1 c);have m2:=wF v (ds (m.getD i dF).1.1 c);have m3:=lN (mx v (ds (m.getD i dF).1.1 c)) (ds (m.getD i dF).1.2.1 c);have m4:=wF (mx v (ds (m.getD i dF).1.1 c)) (ds (m.getD i dF).1.2.1 c);have m5:=lN (mx (mx v (ds (m.getD i dF).1.1 c)) (ds (m.getD i dF).1.2.1 c)) (ds (m.getD i dF).1.2.2 c);have m6:=wF (mx (mx v (ds (m.getD i dF).1.1 c)) (ds (m.getD i dF).1.2.1 c)) (ds (m.getD i dF).1.2.2 c);refine⟨by omega,fun j h1 h2=>?_⟩;by_cases hj:j=i
  ·subst hj;exact⟨by omega,by omega,by omega⟩
  ·exact k2 j (by omega) h2
theorem aY2 {m:fV} (hv:xT m) {c:P3} (hc:bd 64 c) {j:Nat} (hj:j < m.length):InB c (vJ m c).1 (m.getD j dF).1:=by
 have e:aFg m c=0:=by
  unfold aFg;rw [←rV,aJs hv,(aNr (p:=c) (k:=64) (by decide)).2 hc];rfl
 unfold vJ;rw [e,show(((0:Int):Int) != 0)=false from rfl,cond_false];exact(aN5 (fun k hk=>aK3 hv hk) hc m.length 0 _ 0 (by omega) (by omega) (by omega)).2 j (Nat.zero_le _) hj
theorem aJu (l:fV)(ns:ZL):mK l ns=ns.map (fun a=>l.getD (tN a) dF):=aGl l ns
theorem aU0 {l:fV} {ns:ZL} (hv:xT l)(hi:InR l.length ns)(hn:ns.length<=96) {x:Int} (hx:x∈ns):InB (aK4 l ns) (vJ (mK l ns) (aK4 l ns)).1 (l.getD (tN x) dF).1:=by
 obtain⟨j,hj,rfl⟩:=List.mem_iff_getElem.1 hx;have hg:∀k,k < ns.length->(mK l ns).getD k dF=l.getD (tN (ns.getD k dF)) dF:=fun k hk=>by
  rw [aJu];simp [fS,hk]
 have hlen:(mK l ns).length=ns.length:=by rw [aJu];simp
 have hvp:xT (mK l ns):=by
  refine⟨by omega,fun k hk=>?_⟩;rw [hlen] at hk;rw [hg k hk];have:=hi.at hk;exact hv.2 _ (by omega)
 have:=aY2 hvp (c:=aK4 l ns) ⟨rW hv hi 0,rW hv hi 1,rW hv hi 2⟩ (j:=j) (by omega);have e:ns.getD j dF=ns[j]:=by rw [fS,List.getElem?_eq_getElem hj];rfl
 rw [hg j hj,e] at this;exact this
def NBL (l:fV)(ord:ZL)(fr up:Int)(N:NDE):Prop:=(fr<=N.1/\N.1<=N.2.1/\N.2.1<=up)/\∀p:Int,N.1<=p->p < N.2.1->InB N.2.2.2.2.1 N.2.2.2.2.2 (l.getD (tN (ord.getD (tN (p - fr)) dF)) dF).1
theorem aS6 {l:ZL} {i:Nat} (h:i < l.length):l.getD i dF∈l:=by
 rw [fS,List.getElem?_eq_getElem h];exact List.getElem_mem h
theorem aU1 {α:Type} [Inhabited α] {a b:List α} {i:Nat} (h:i < a.length):(a++b).getD i dF=a.getD i dF:=by
 rw [fS,List.getElem?_append_left h,←fS]
theorem aU2 {α:Type} [Inhabited α] {a b:List α} {i:Nat} (h:a.length<=i):(a++b).getD i dF=b.getD (i - a.length) dF:=by
 rw [fS,List.getElem?_append_right h,←fS]
theorem aHi {l:fV} (hv:xT l) {leaf:Int} (hl:1<=leaf):∀(n:Nat) (ns:ZL) (fr a:Int),ns.length < n->InR l.length ns->ns.length<=96->∀N∈(GT l leaf n ns fr a).2,NBL l (GT l leaf n ns fr a).1 fr (fr+ns.length) N
 | 0,_,_,_,h,_,_=>absurd h (fW _)
 | n+1,ns,fr,a,h,hi,hn=>by
  have hroot:∀lt rt:Int,NBL l (GT l leaf (n+1) ns fr a).1 fr (fr+ns.length) (ndR l ns fr lt rt):=fun lt rt=>by
   have hp:=aBc l hl (n+1) ns fr a h;have hlen:=hp.length_eq;refine⟨⟨Int.le_refl _,by simp only [ndR];omega,Int.le_refl _⟩,fun p h1 h2=>?_⟩;simp only [ndR] at h1 h2 ⊢;exact aU0 hv hi hn (hp.mem_iff.1 (aS6 (by omega)))
  intro N hN;by_cases h0:(ns.length:Int)<=leaf
  ·have hr:=hroot (-1) (-1);rw [mM h0] at hN hr ⊢;rw [List.mem_singleton.1 hN];exact hr
  ·have hr:=hroot;rw [mN h0] at hN hr ⊢;have hsl:=nR l (aV l ns) ns;have hsp:(qL l (aV l ns) ns).Perm ns:=List.mergeSort_perm ns _;generalize qL l (aV l ns) ns=s at *;have hd:(ns.length+1) / 2<=ns.length:=by omega
   have i1:InR l.length (s.take ((ns.length+1) / 2)):=fun x hx=>hi x (hsp.mem_iff.1 (List.mem_of_mem_take hx))
   have i2:InR l.length (s.drop ((ns.length+1) / 2)):=fun x hx=>hi x (hsp.mem_iff.1 (List.mem_of_mem_drop hx))
   have l1:(s.take ((ns.length+1) / 2)).length=(ns.length+1) / 2:=by rw [List.length_take];omega
   have l2:(s.drop ((ns.length+1) / 2)).length=ns.length - (ns.length+1) / 2:=by rw [List.length_drop];omega
   have g1:=zE l hl n (s.take ((ns.length+1) / 2)) fr (a+1) (by omega);rcases List.mem_cons.1 hN with rfl | hN
   ·exact hr _ _
   ·rcases List.mem_append.1 hN with hN | hN
    ·obtain⟨⟨b1,b2,b3⟩,b4⟩:=aHi hv hl n _ _ _ (by omega) i1 (by omega) N hN;refine⟨⟨b1,b2,by omega⟩,fun p h1 h2=>?_⟩;have:=b4 p h1 h2;simp only;rw [aU1 (by omega)];exact this
    ·obtain⟨⟨b1,b2,b3⟩,b4⟩:=aHi hv hl n _ _ _ (by omega) i2 (by omega) N hN;refine⟨⟨by omega,b2,by omega⟩,fun p h1 h2=>?_⟩;have:=b4 p h1 h2;simp only;rw [aU2 (by omega),show tN (p - fr) - (GT l leaf n (s.take ((ns.length+1) / 2)) fr (a+1)).1.length=tN (p - (fr+((ns.length+1) / 2:Nat))) by omega];exact this
theorem aU3 {l:fV} (hv:xT l) {leaf:Int} (hl:1<=leaf) {N:NDE} (hN:N∈(BT l leaf).2):NBL l (BT l leaf).1 0 l.length N:=by
 unfold BT at hN ⊢;by_cases h0:l.length=0
 ·rw [if_pos h0] at hN;cases hN
 ·rw [if_neg h0] at hN ⊢;have:=aHi hv hl (l.length+1) (jS l.length) 0 0 (by rw [eH];omega) (jK _) (by rw [eH];exact hv.1) N hN;rw [eH,Int.zero_add] at this;exact this
end Go.Proofs.YtlffahoikfahlaaGreat
