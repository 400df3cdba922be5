/-
  Parts of the proofs of the laws: the executor, what functions of the program compute, and that it is what the statements ask. No premise.
-/
import Derived.Test.YtlffahoikfahlaaGreatVPte3
import Derived.Deep.Slices
import Derived.ProofKit
import Derived.RowKit
import Derived.Sort.AssemblyPlain
set_option linter.unusedVariables false
set_option linter.unusedSimpArgs false
set_option maxHeartbeats 4000000
open Int renaming toNat → tN
open Inhabited renaming default → dF
open Go.IntKind renaming wrap → iW
open BitVec renaming ofInt → bO
open Int renaming tdiv → tD
open Int renaming fdiv → fD
open Int renaming tmod → mD
namespace Go.Proofs.YtlffahoikfahlaaGreat
open Go.Proofs Go.Aw Go.RowKit
set_option maxRecDepth 100000
theorem aXg {a:Zs} (h:((pF a:Int) != 0)=false):-1099511627776<=a.1/\a.1<=a.2/\a.2<=1099511627776:=by
 have h:pF a=0:=by simpa using h
 unfold pF at h;cases h0:uZ a
 case false=>rw [h0] at h;cases h
 unfold uZ at h0;by_cases h1:a.1≥-1099511627776
 ·by_cases h2:a.1<=a.2
  ·rw [bX h1,cond_true,bX h2,cond_true] at h0;exact⟨h1,h2,eS h0⟩
  ·rw [bX h1,cond_true,cA h2,cond_false] at h0;cases h0
 ·rw [cA h1,cond_false] at h0;cases h0
def F80 (a0:Int):Bool := (bif (decide ((a0:Int)≥(-1099511627776)))then(decide ((a0:Int)<=1099511627776))else false)
theorem C80 (a0:Int):Con Tryz.prog 80 [(iv a0)] [] (.v (.bool (F80 a0))) []:=by
 refine cS Tryz.func80 fun cx hcx=>?_
 rw [F80];cases h0:(decide ((a0:Int)≥(-1099511627776)))
 case true=>exact rT [.d h0] hcx
 exact rT [.d h0] hcx
def xF (a0:Zs)(a1:Int):Zs×Int := (bif (((pF a0):Int) != 0)then((0,0),(pF a0))else(bif (!(F80 a1))then((0,0),1)else((sT (if((zF a0.2 a1):Int) < (zF a0.1 a1)then(zF a0.2 a1)else(zF a0.1 a1)) (if((zF a0.1 a1):Int) < (zF a0.2 a1)then(zF a0.2 a1)else(zF a0.1 a1))).1,(sT (if((zF a0.2 a1):Int) < (zF a0.1 a1)then(zF a0.2 a1)else(zF a0.1 a1)) (if((zF a0.1 a1):Int) < (zF a0.2 a1)then(zF a0.2 a1)else(zF a0.1 a1))).2)))
theorem C43 (a0:Zs)(a1:Int):Con Tryz.prog 43 [(.a [(iv a0.1),(iv a0.2)]),(iv a1)] [] (.t [(.a (k2 (xF a0 a1).1)),(iv (xF a0 a1).2)]) []:=by
 refine cS Tryz.func43 fun cx hcx=>?_
 let t0:SL:=[.c [2] (aW6 a0)];rw [xF];cases h0:(((pF a0):Int) != 0)
 case true=>exact rT (t0++[.d h0]) hcx
 let t1:SL:=t0++[.d h0,.c [] (C80 a1)];cases h1:(!(F80 a1))
 case true=>exact rT (t1++[.d h1]) hcx
 exact rT (t1++[.d h1,.c [] (C81 a0.1 a1  (by have:=aXg h0;omega)),.c [] (C81 a0.2 a1  (by have:=aXg h0;omega)),.c [] (C57 (if((zF a0.2 a1):Int) < (zF a0.1 a1) then(zF a0.2 a1) else(zF a0.1 a1)) (if((zF a0.1 a1):Int) < (zF a0.2 a1) then(zF a0.2 a1) else(zF a0.1 a1)))]) hcx
def eK (a0:Int):Int := (bif (decide ((a0:Int) < 0))then(iW .u64 (W (0 - a0)))else(iW .u64 a0))
theorem aVy (a0:Int):Con Tryz.prog 119 [(iv a0)] [] (.v (.int .u64 (eK a0))) []:=by
 refine cS Tryz.func119 fun cx hcx=>?_
 rw [eK];cases h0:(decide ((a0:Int) < 0))
 case true=>exact rT [.d h0] hcx
 exact rT [.d h0] hcx
def bY (a0 a1:Int):Zs := ((iW .u64 ((iW .u64 ((iW .u64 ((fD a0 (2 ^ (min (tN 32) 64)))*(fD a1 (2 ^ (min (tN 32) 64)))))+(fD (iW .u64 ((iW .u64 ((fD a0 (2 ^ (min (tN 32) 64)))*(iW .u64 ((bO 64 a1 &&& bO 64 4294967295).toNat:Int))))+(fD (iW .u64 ((iW .u64 ((bO 64 a0 &&& bO 64 4294967295).toNat:Int))*(iW .u64 ((bO 64 a1 &&& bO 64 4294967295).toNat:Int)))) (2 ^ (min (tN 32) 64))))) (2 ^ (min (tN 32) 64)))))+(fD (iW .u64 ((iW .u64 ((bO 64 (iW .u64 ((iW .u64 ((fD a0 (2 ^ (min (tN 32) 64)))*(iW .u64 ((bO 64 a1 &&& bO 64 4294967295).toNat:Int))))+(fD (iW .u64 ((iW .u64 ((bO 64 a0 &&& bO 64 4294967295).toNat:Int))*(iW .u64 ((bO 64 a1 &&& bO 64 4294967295).toNat:Int)))) (2 ^ (min (tN 32) 64))))) &&& bO 64 4294967295).toNat:Int))+(iW .u64 ((iW .u64 ((bO 64 a0 &&& bO 64 4294967295).toNat:Int))*(fD a1 (2 ^ (min (tN 32) 64))))))) (2 ^ (min (tN 32) 64))))),(iW .u64 (a0*a1)))
theorem aZi (a0 a1:Int):Con Tryz.prog 118 [(.v (.int .u64 a0)),(.v (.int .u64 a1))] [] (.t [(.v (.int .u64 (bY a0 a1).1)),(.v (.int .u64 (bY a0 a1).2))]) []:=by
 refine cS Tryz.func118 fun cx hcx=>?_
 exact rT [.p (show 0<=(32:Int) from by decide),.p (show 0<=(32:Int) from by decide),.p (show 0<=(32:Int) from by decide),.p (show 0<=(32:Int) from by decide),.p (show 0<=(32:Int) from by decide)] hcx
def F73 (a0 a1:Int):Int := (bif (((bY (eK a0) (eK a1)).1:Int) == 0)then(bif (decide (((bY (eK a0) (eK a1)).2:Int)<=1099511627776))then(bif (!((decide ((a0:Int) < 0)) == (decide ((a1:Int) < 0))))then(W (0 - (W (bY (eK a0) (eK a1)).2)))else(W (bY (eK a0) (eK a1)).2))else(bif (!((decide ((a0:Int) < 0)) == (decide ((a1:Int) < 0))))then(-1099511627777)else 1099511627777))else(bif (!((decide ((a0:Int) < 0)) == (decide ((a1:Int) < 0))))then(-1099511627777)else 1099511627777))
theorem C73 (a0 a1:Int):Con Tryz.prog 73 [(iv a0),(iv a1)] [] (iv (F73 a0 a1)) []:=by
 refine cS Tryz.func73 fun cx hcx=>?_
 let t0:SL:=[.c [] (aVy a0),.c [] (aVy a1),.c [] (aZi (eK a0) (eK a1))];rw [F73];cases h0:(((bY (eK a0) (eK a1)).1:Int) == 0)
 case true=>
  let t1:SL:=t0++[.d h0];cases h1:(decide (((bY (eK a0) (eK a1)).2:Int)<=1099511627776))
  case true=>
   let t2:SL:=t1++[.d h1];cases h2:(!((decide ((a0:Int) < 0)) == (decide ((a1:Int) < 0))))
   case true=>exact rT (t2++[.d h2]) hcx
   exact rT (t2++[.d h2]) hcx
  let t2:SL:=t1++[.d h1];cases h2:(!((decide ((a0:Int) < 0)) == (decide ((a1:Int) < 0))))
  case true=>exact rT (t2++[.d h2]) hcx
  exact rT (t2++[.d h2]) hcx
 let t1:SL:=t0++[.d h0];cases h1:(!((decide ((a0:Int) < 0)) == (decide ((a1:Int) < 0))))
 case true=>exact rT (t1++[.d h1]) hcx
 exact rT (t1++[.d h1]) hcx
def F36 (a0:Zs)(a1:Int):Zs×Int := (bif (!(xE a0))then((0,0),1)else(bif (!(F71 a1 (-1099511627776) 1099511627776))then((0,0),1)else(bif (decide ((a1:Int) < 0))then((F72 (F73 a0.2 a1) (F73 a0.1 a1)).1,(F72 (F73 a0.2 a1) (F73 a0.1 a1)).2)else((F72 (F73 a0.1 a1) (F73 a0.2 a1)).1,(F72 (F73 a0.1 a1) (F73 a0.2 a1)).2))))
theorem C36 (a0:Zs)(a1:Int):Con Tryz.prog 36 [(.a [(iv a0.1),(iv a0.2)]),(iv a1)] [] (.t [(.a (k2 (F36 a0 a1).1)),(iv (F36 a0 a1).2)]) []:=by
 refine cS Tryz.func36 fun cx hcx=>?_
 let t0:SL:=[.c [] (C68 a0)];rw [F36];cases h0:(!(xE a0))
 case true=>exact rT (t0++[.d h0]) hcx
 let t1:SL:=t0++[.d h0,.c [] (C71 a1 (-1099511627776) 1099511627776)];cases h1:(!(F71 a1 (-1099511627776) 1099511627776))
 case true=>exact rT (t1++[.d h1]) hcx
 let t2:SL:=t1++[.d h1];cases h2:(decide ((a1:Int) < 0))
 case true=>exact rT (t2++[.d h2,.c [] (C73 a0.2 a1),.c [] (C73 a0.1 a1),.c [] (C72 (F73 a0.2 a1) (F73 a0.1 a1))]) hcx
 exact rT (t2++[.d h2,.c [] (C73 a0.1 a1),.c [] (C73 a0.2 a1),.c [] (C72 (F73 a0.1 a1) (F73 a0.2 a1))]) hcx
end Go.Proofs.YtlffahoikfahlaaGreat
namespace Go.Proofs.YtlffahoikfahlaaGreat
open Go.Proofs Go.Aw Go.RowKit
set_option maxRecDepth 100000
theorem pI (n:Int):iW .u64 n=n % 18446744073709551616:=by
 simp [iW,IntKind.bits,IntKind.signed]
theorem aHp (a:Int):fD a (2 ^ (min (tN 32) 64))=a / 4294967296:=by
 rw [show(2:Int) ^ (min (tN 32) 64)=4294967296 from by kernel_rfl];exact Int.fdiv_eq_ediv_of_nonneg _ oM
theorem aSh (a:Int):((bO 64 a &&& bO 64 4294967295).toNat:Int)=a % 4294967296:=by
 rw [BitVec.toNat_and,show(bO 64 4294967295).toNat=2 ^ 32 - 1 from by kernel_rfl,Nat.and_two_pow_sub_one_eq_mod,BitVec.toNat_ofInt];have h0:=Int.emod_nonneg a (show(18446744073709551616:Int)≠0 by omega);rw [show((2 ^ 64:Nat):Int)=18446744073709551616 from by kernel_rfl];have h1:(((a % 18446744073709551616).toNat:Nat):Int)=a % 18446744073709551616:=Int.toNat_of_nonneg h0;rw [Int.natCast_emod,h1];show a % 18446744073709551616 % 4294967296=_;omega
theorem aXh {x y:Int} (hx:0<=x/\x<=1099511627776)(hy:0<=y/\y<=1099511627776):bY x y=(x*y / 18446744073709551616,x*y % 18446744073709551616):=by
 unfold bY;simp only [pI,aHp,aSh];have e0:∀n:Int,n % 4294967296 % 18446744073709551616=n % 4294967296:=fun n=>by omega
 simp only [e0];have key:x*y=(x / 4294967296*(y / 4294967296))*18446744073709551616+(x / 4294967296*(y % 4294967296)+x % 4294967296*(y / 4294967296))*4294967296+x % 4294967296*(y % 4294967296):=by
  have h1:=Int.mul_ediv_add_emod x 4294967296;have h2:=Int.mul_ediv_add_emod y 4294967296;generalize x / 4294967296=x1 at *;generalize x % 4294967296=x0 at *;generalize y / 4294967296=y1 at *;generalize y % 4294967296=y0 at *;subst h1;subst h2;grind
 have b1:=dM (a:=256) (b:=256) (x:=x / 4294967296) (y:=y / 4294967296) oM oM;have b2:=dM (a:=256) (b:=4294967295) (x:=x / 4294967296) (y:=y % 4294967296) oM oM;have b3:=dM (a:=4294967295) (b:=256) (x:=x % 4294967296) (y:=y / 4294967296) oM oM;have b4:=dM (a:=4294967295) (b:=4294967295) (x:=x % 4294967296) (y:=y % 4294967296) oM oM;have n1:0<=x / 4294967296*(y / 4294967296):=Int.mul_nonneg oM oM;have n2:0<=x / 4294967296*(y % 4294967296):=Int.mul_nonneg oM oM;have n3:0<=x % 4294967296*(y / 4294967296):=Int.mul_nonneg oM oM;have n4:0<=x % 4294967296*(y % 4294967296):=Int.mul_nonneg oM oM;generalize x*y=m at *;generalize x / 4294967296*(y / 4294967296)=d at *;generalize x / 4294967296*(y % 4294967296)=b at *;generalize x % 4294967296*(y / 4294967296)=c at *;generalize x % 4294967296*(y % 4294967296)=a at *;rw [eA];exact⟨by omega,rfl⟩
def uM (x n:Int):Int:=if 1099511627776 < x*n then 1099511627777 else if x*n < -1099511627776 then -1099511627777 else x*n
theorem aMp (x n:Int):(x*n=(if x < 0 then 0 - x else x)*(if n < 0 then 0 - n else n)/\((x < 0)=(n < 0)))\/(x*n=-((if x < 0 then 0 - x else x)*(if n < 0 then 0 - n else n))/\¬((x < 0)=(n < 0))):=by
 by_cases h1:x < 0
 ·by_cases h2:n < 0
  ·left;rw [if_pos h1,if_pos h2];exact⟨by grind,by simp [h1,h2]⟩
  ·right;rw [if_pos h1,if_neg h2];exact⟨by grind,by simp [h1,h2]⟩
 ·by_cases h2:n < 0
  ·right;rw [if_neg h1,if_pos h2];exact⟨by grind,by simp [h1,h2]⟩
  ·left;rw [if_neg h1,if_neg h2];exact⟨by grind,by simp [h1,h2]⟩
theorem aSi {x n:Int} (hx:-1099511627776<=x/\x<=1099511627776)(hn:-1099511627776<=n/\n<=1099511627776):F73 x n=uM x n:=by
 have hsz:∀z:Int,-1099511627776<=z/\z<=1099511627776->eK z=if z < 0 then 0 - z else z:=by
  intro z hz;unfold eK;by_cases h:z < 0
  ·rw [bX h,cond_true,if_pos h,aH oM oM,pI];omega
  ·rw [cA h,cond_false,if_neg h,pI];omega
 unfold F73 uM;rw [hsz x hx,hsz n hn,aXh (by split<;>omega) (by split<;>omega)];have hm:=aMp x n;have hnn:0<=(if x < 0 then 0 - x else x)*(if n < 0 then 0 - n else n):=Int.mul_nonneg (by split<;>omega) (by split<;>omega);generalize (if x < 0 then 0 - x else x)*(if n < 0 then 0 - n else n)=m at *;have e:(!(decide (x < 0) == decide (n < 0)))=decide (x*n=-m/\¬((x < 0)=(n < 0))):=by
  by_cases h1:x < 0<;>by_cases h2:n < 0<;>simp [h1,h2] at hm ⊢<;>omega
 rw [e];simp only;by_cases h1:m / 18446744073709551616=0
 ·rw [beq_iff_eq.2 h1,cond_true];have h2:m % 18446744073709551616=m:=by omega
  rw [h2];by_cases h3:m<=1099511627776
  ·rw [bX h3,cond_true,aH (n:=m) oM oM,aH (n:=0 - m) oM oM];rcases hm with⟨qq1,qq2⟩ | ⟨qq1,qq2⟩
   ·rw [cA (fun h=>h.2 qq2),cond_false,qq1,if_neg oM,if_neg oM]
   ·rw [bX ⟨qq1,qq2⟩,cond_true,qq1,if_neg oM,if_neg oM];omega
  ·rw [cA h3,cond_false];rcases hm with⟨qq1,qq2⟩ | ⟨qq1,qq2⟩
   ·rw [cA (fun h=>h.2 qq2),cond_false,qq1,if_pos oM]
   ·rw [bX ⟨qq1,qq2⟩,cond_true,qq1,if_neg oM,if_pos oM]
 ·rw [beq_eq_false_iff_ne.2 h1,cond_false];rcases hm with⟨qq1,qq2⟩ | ⟨qq1,qq2⟩
  ·rw [cA (fun h=>h.2 qq2),cond_false,qq1,if_pos oM]
  ·rw [bX ⟨qq1,qq2⟩,cond_true,qq1,if_neg oM,if_pos oM]
theorem aSj {x n:Int} (hx:-1099511627776<=x/\x<=1099511627776)(hn:-1099511627776<=n/\n<=1099511627776):zF x n=uM x n:=by
 have hm:=aMp x n;have ha:∀z:Int,(-1099511627776<=z/\z<=1099511627776)->(if(z:Int) < (W (0 - z)) then(W (0 - z)) else z)=if z < 0 then 0 - z else z:=by
  intro z hz;rw [aH (n:=0 - z) oM oM]
  (repeat' split)<;>omega
 unfold zF uM;rw [ha x hx,ha n hn];by_cases hx0:x=0
 ·subst hx0;simp [aH]
 by_cases hn0:n=0
 ·subst hn0;simp [aH]
 rw [bne_iff_ne.2 hx0,bne_iff_ne.2 hn0,cond_true,cond_true];have a1:1<=(if x < 0 then 0 - x else x)/\(if x < 0 then 0 - x else x)<=1099511627776:=by split<;>omega
 have a2:1<=(if n < 0 then 0 - n else n)/\(if n < 0 then 0 - n else n)<=1099511627776:=by split<;>omega
 have e:(!(decide (x < 0) == decide (n < 0)))=decide (x*n=-((if x < 0 then 0 - x else x)*(if n < 0 then 0 - n else n))/\¬((x < 0)=(n < 0))):=by
  by_cases h1:x < 0<;>by_cases h2:n < 0<;>simp [h1,h2] at hm ⊢<;>omega
 rw [e];generalize (if x < 0 then 0 - x else x)=ax at *;generalize (if n < 0 then 0 - n else n)=an at *;rw [Int.tdiv_eq_ediv_of_nonneg oM];obtain⟨d1,d2,d3⟩:=aAc (N:=1099511627776) (n:=ax) oM oM;have d4:=Int.mul_ediv_add_emod 1099511627776 ax;have d5:=Int.emod_lt_of_pos 1099511627776 (show 0 < ax by omega);rw [aH (n:=1099511627776 / ax) oM oM];have hbig:an > 1099511627776 / ax↔1099511627776 < ax*an:=by
  constructor
  ·intro h;have:=Int.mul_le_mul_of_nonneg_left (show 1099511627776 / ax+1<=an by omega) (show 0<=ax by omega);rw [Int.mul_add,Int.mul_one] at this;omega
  ·intro h;rcases Int.lt_or_le (1099511627776 / ax) an with h' | h'
   ·exact h'
   ·have:=Int.mul_le_mul_of_nonneg_left h' (show 0<=ax by omega);rw [Int.mul_comm] at d3;omega
 by_cases hb:an > 1099511627776 / ax
 ·rw [bX hb,cond_true];have:=hbig.1 hb;rcases hm with⟨qq1,qq2⟩ | ⟨qq1,qq2⟩
  ·rw [cA (fun h=>h.2 qq2),cond_false,qq1,if_pos oM]
  ·rw [bX ⟨qq1,qq2⟩,cond_true,qq1,if_neg oM,if_pos oM]
 ·rw [cA hb,cond_false];have h1:ax*an<=1099511627776:=by
   rcases Int.lt_or_le 1099511627776 (ax*an) with h | h
   ·exact absurd (hbig.2 h) hb
   ·exact h
  have h2:0<=ax*an:=Int.mul_nonneg oM oM;rcases hm with⟨qq1,qq2⟩ | ⟨qq1,qq2⟩<;>rw [qq1,if_neg oM,if_neg oM]<;>exact aH oM oM
theorem aSk {x y n:Int} (h:x<=y)(hn:0<=n):uM x n<=uM y n:=by
 have:=Int.mul_le_mul_of_nonneg_right h hn;unfold uM;(repeat' split)<;>omega
theorem aSl {x y n:Int} (h:x<=y)(hn:n<=0):uM y n<=uM x n:=by
 have:=Int.mul_le_mul_of_nonpos_right h hn;unfold uM;(repeat' split)<;>omega
def scl (a:Zs)(n:Int):Zs:=if n < 0 then(uM a.2 n,uM a.1 n) else(uM a.1 n,uM a.2 n)
def vs (a:Zs):Prop:=-1099511627776<=a.1/\a.1<=a.2/\a.2<=1099511627776
theorem aN7 {a:Zs} {n:Int} (ha:vs a)(hn:-1099511627776<=n/\n<=1099511627776):xF a n=sT (scl a n).1 (scl a n).2:=by
 obtain⟨h1,h2,h3⟩:=ha;unfold xF pF F80;rw [aN5 (a:=a.1) (b:=a.2) h1 h2 h3,bX (show n≥-1099511627776 from hn.1),bX hn.2,aSj (x:=a.1) oM hn,aSj (x:=a.2) oM hn];show((sT _ _).1,(sT _ _).2)=_;unfold scl;by_cases h:n < 0
 ·have:=aSl h2 (show n<=0 by omega);rw [if_pos h];simp only;rw [show(if(uM a.2 n:Int) < uM a.1 n then uM a.2 n else uM a.1 n)=uM a.2 n by split<;>omega,show(if(uM a.1 n:Int) < uM a.2 n then uM a.2 n else uM a.1 n)=uM a.1 n by split<;>omega]
 ·have:=aSk h2 (show 0<=n by omega);rw [if_neg h];simp only;rw [show(if(uM a.2 n:Int) < uM a.1 n then uM a.2 n else uM a.1 n)=uM a.1 n by split<;>omega,show(if(uM a.1 n:Int) < uM a.2 n then uM a.2 n else uM a.1 n)=uM a.2 n by split<;>omega]
theorem bB7 {a b:Int} (h1:-1099511627776<=a)(h2:a<=b)(h3:b<=1099511627776):xE (a,b)=true:=aN5 h1 h2 h3
theorem aN8 (a b:Int):F72 a b=sT a b:=rfl
theorem aN9 {a:Zs} {n:Int} (ha:vs a)(hn:-1099511627776<=n/\n<=1099511627776):F36 a n=sT (scl a n).1 (scl a n).2:=by
 obtain⟨h1,h2,h3⟩:=ha;unfold F36;rw [bB7 (a:=a.1) (b:=a.2) h1 h2 h3,rN,bX hn,aSi (x:=a.1) oM hn,aSi (x:=a.2) oM hn,aN8,aN8];unfold scl;by_cases h:n < 0
 ·rw [if_pos h,bX h];rfl
 ·rw [if_neg h,cA h];rfl
theorem aGd (a b:Int):(sT a b=((a,b),0)/\vs (a,b))\/sT a b=((0,0),4):=by
 by_cases h:vs (a,b)
 ·exact Or.inl ⟨aJ9 h.1 h.2.1 h.2.2,h⟩
 ·right;unfold sT;have:uZ (a,b)=false:=by
   unfold uZ;by_cases h1:(a,b).1≥-1099511627776
   ·by_cases h2:(a,b).1<=(a,b).2
    ·rw [bX h1,bX h2,cond_true,cond_true];exact cA (fun h3=>h ⟨h1,h2,h3⟩)
    ·rw [bX h1,cA h2];rfl
   ·rw [cA h1];rfl
  rw [this];rfl
def ht (p:PN)(x:P3):Int:=dt (sb p.1 x) (cr (sb p.2.1 x) (sb p.2.2 x))
theorem aZj {v:Zs} {n:Int} (hn:n=1\/n=4\/n=16\/n=64)(h:okv v 0):vs (avg v n):=by
 unfold okv at h;unfold vs avg;simp only;rcases hn with rfl | rfl | rfl | rfl<;>omega
theorem aSm {of:Int->Zs} (ho:OfOk of) {p:PN} {x:P3} {d:Int} (hd:0<=d/\d<=3):((yF of p x d).2=0/\vs (yF of p x d).1)\/yF of p x d=((0,0),10):=by
 unfold yF;cases h:acc of (tm (sc d) x) (eQ d.toNat p) (0,0) with
 | inl v=>exact Or.inl ⟨rfl,aZj (aDo d) (aMo ho (aSf hd) h)⟩
 | inr r =>
  right;have key:∀(l:List PN) (v:Zs) (r:Zs×Int),acc of (tm (sc d) x) l v=.inr r->r=((0,0),10):=by
   intro l
   induction l with
   | nil=>intro v r h;cases h
   | cons c l ih =>
    intro v r h;unfold acc at h;split at h
    ·cases h;rfl
    ·exact ih _ _ h
  exact key _ _ _ h
theorem aSn {p:PN} {x:P3} {d:Int} {of:Int->Int->Zs} (ho:∀s,s=1\/s=2\/s=4\/s=8->OfOk (of s))(h:(aDp of p x d).2=0):ck p x d=0/\vs (aDp of p x d).1:=by
 unfold aDp at *;by_cases hc:ck p x d=0
 ·rw [if_pos hc] at *;refine⟨hc,?_⟩;rcases aSm (ho _ (yE d)) (p:=p) (x:=x) (aJ6 hc).2.2 with h1 | h1
  ·exact h1.2
  ·rw [h1] at h;cases h
 ·rw [if_neg hc] at h;exact absurd h hc
def wU:List Zs->Zs->Zs | [],v=>v | a::l,v=>wU l (v.1+a.1,v.2+a.2)
theorem aHq:∀(l:List Zs) (v:Zs),wU l v=(v.1+(l.map (·.1)).sum,v.2+(l.map (·.2)).sum)
 | [],v=>by simp [wU]
 | a::l,v=>by rw [wU,aHq l];simp only [List.map_cons,List.sum_cons,Int.add_assoc]
section
variable {l : List Zs}
end
end Go.Proofs.YtlffahoikfahlaaGreat
namespace Go.Proofs.YtlffahoikfahlaaGreat
open Go.Proofs Go.Aw Go.RowKit
set_option maxRecDepth 100000
def gC (a0 a1:Zt):Zt := ((W (a0.1+a1.1)),(W (a0.2.1+a1.2.1)),(W (a0.2.2+a1.2.2)))
theorem C62 (a0 a1:Zt):Con Tryz.prog 62 [(.a (k3 a0)),(.a (k3 a1))] [] (.a (k3 (gC a0 a1))) []:=by
 refine cS Tryz.func62 fun cx hcx=>?_
 exact rT [] hcx
def F63 (a0:Int):Int := (if(a0:Int) < (W (0 - a0))then(W (0 - a0))else a0)
theorem C63 (a0:Int):Con Tryz.prog 63 [(iv a0)] [] (iv (F63 a0)) []:=by
 refine cS Tryz.func63 fun cx hcx=>?_
 exact rT [] hcx
def zG (a0:Zt)(a1:Int):Bool := (bif (decide (((F63 a0.1):Int)<=a1))then(bif (decide (((F63 a0.2.1):Int)<=a1))then(bif (decide (((F63 a0.2.2):Int)<=a1))then(bif (decide ((a0.1:Int)≥(W (0 - a1))))then(bif (decide ((a0.2.1:Int)≥(W (0 - a1))))then(decide ((a0.2.2:Int)≥(W (0 - a1))))else false)else false)else false)else false)else false)
theorem C59 (a0:Zt)(a1:Int):Con Tryz.prog 59 [(.a (k3 a0)),(iv a1)] [] (.v (.bool (zG a0 a1))) []:=by
 refine cS Tryz.func59 fun cx hcx=>?_
 let t0:SL:=[.c [] (C63 a0.1)];rw [zG];cases h0:(decide (((F63 a0.1):Int)<=a1))
 case true=>
  let t1:SL:=t0++[.d h0,.c [] (C63 a0.2.1)];cases h1:(decide (((F63 a0.2.1):Int)<=a1))
  case true=>
   let t2:SL:=t1++[.d h1,.c [] (C63 a0.2.2)];cases h2:(decide (((F63 a0.2.2):Int)<=a1))
   case true=>
    let t3:SL:=t2++[.d h2];cases h3:(decide ((a0.1:Int)≥(W (0 - a1))))
    case true=>
     let t4:SL:=t3++[.d h3];cases h4:(decide ((a0.2.1:Int)≥(W (0 - a1))))
     case true=>exact rT (t4++[.d h4]) hcx
     exact rT (t4++[.d h4]) hcx
    exact rT (t3++[.d h3]) hcx
   exact rT (t2++[.d h2]) hcx
  exact rT (t1++[.d h1]) hcx
 exact rT (t0++[.d h0]) hcx
def bP (a0:Zt):Int := (W ((W ((W (a0.1*a0.1))+(W (a0.2.1*a0.2.1))))+(W (a0.2.2*a0.2.2))))
theorem aP2 (a0:Zt):Con Tryz.prog 103 [(.a (k3 a0))] [] (iv (bP a0)) []:=by
 refine cS Tryz.func103 fun cx hcx=>?_
 exact rT [] hcx
def bJ (a0 a1:Zt):Zt := ((W (a0.1 - a1.1)),(W (a0.2.1 - a1.2.1)),(W (a0.2.2 - a1.2.2)))
theorem C34 (a0 a1:Zt):Con Tryz.prog 34 [(.a (k3 a0)),(.a (k3 a1))] [] (.a (k3 (bJ a0 a1))) []:=by
 refine cS Tryz.func34 fun cx hcx=>?_
 exact rT [] hcx
section
variable {n s t : Int}
end
end Go.Proofs.YtlffahoikfahlaaGreat
namespace Go.Proofs.YtlffahoikfahlaaGreat
open Go.Proofs Go.Aw Go.RowKit
set_option maxRecDepth 100000
open Go.ChangeShapes Go.WideShapes Go.ChangeAt
section
variable {H : Type} {enc : TypeId × Value → H} {P : Program} {w : World}
def aBt (w:World)(es:Nat)(v:Value)(nss:List ZL):Prop := (∀ns∈nss,ns.length=es)/\nss.length<=2^63-1 /\ ((v=.slice none 0 0/\nss=[])\/∃b o cap,v=.slice (some ⟨b,o,none⟩) nss.length cap/\nss.length<=cap/\∀(i:Nat) (x:Value),((nss.flatten).map (Value.int .i64))[i]? = some x->w.cell? ⟨b,o+i,none⟩=some x)
theorem aDq {es b:Nat}:∀(nss:List ZL) (o:Nat),(∀(j:Nat) (ns:ZL),nss[j]? = some ns->ns.length=es/\∀(q:Nat) (x:Value),(ns.map (Value.int .i64))[q]? = some x->w.cell? ⟨b,o+j*es+q,none⟩=some x) ->
 ∀(i:Nat) (x:Value),((nss.flatten).map (Value.int .i64))[i]? = some x->w.cell? ⟨b,o+i,none⟩=some x
 | [],o,_,i,x,hi=>by simp at hi
 | ns::l,o,h,i,x,hi=>by
  obtain⟨h1,h2⟩:=h 0 ns rfl;rw [List.flatten_cons,List.map_append] at hi;by_cases hlt:i < ns.length
  ·rw [List.getElem?_append_left (by simpa using hlt)] at hi;have:=h2 i x hi;simpa using this
  ·rw [List.getElem?_append_right (by simpa using hlt)] at hi;have:=aDq l (o+es) (fun j ms hj=>⟨(h (j+1) ms hj).1,fun q y hq=>by
    have:=(h (j+1) ms hj).2 q y hq;rw [show o+es+j*es+q=o+(j+1)*es+q by rw [Nat.add_mul];omega];exact this⟩) (i - es) x (by simpa [h1] using hi)
   rw [show o+es+(i - es)=o+i by omega] at this;exact this
theorem aP3 {r:Reach} {b0:Nat} {t e:TypeId} {es:Nat} {v:Value} {d:DataW H} {ps:List MemPlace} (ht:P.underlying t=some (.slice e))(hf:aDm P 6 e=true)(hes:P.cellsOf e=es)
 (hval:Value.okWide P w r b0 t v) (hd:DataW.Trod enc P w 0 (fun _=>true) true t v d ps):(∃nss,aBt w es v nss)/\∀x∈ps,x.block < w.heap.size:=by
 obtain⟨fuel,hx⟩:=hd;refine⟨?_,DataW.trod_lt fuel t _ _ hx⟩;obtain⟨a,len,cap,rfl⟩:=okWide_slice ht hval;rcases Go.Deep.open_slice ht hx with⟨hc,_⟩ | ⟨a',len',cap',m,n,D,Pl,hc,hb,hl,hm,hmm,_,hall⟩
 ·simp only [Value.cells,List.cons.injEq,and_true] at hc;exact⟨[],fun ns h=>by simp at h,by simp,.inl ⟨hc,rfl⟩⟩
 ·simp only [Value.cells,List.cons.injEq,and_true,Value.slice.injEq] at hc;obtain⟨rfl,rfl,rfl⟩:=hc;simp only [Value.okWide,ht,Cell.okWide,Cell.ok,World.has] at hval;have hsp:a'.spot=none:=hval.2.2.2.1;obtain⟨b,o,sp⟩:=a';simp only at hsp;subst hsp;simp only [if_true] at hmm;obtain⟨N,hN⟩:=Go.Deep.choose_lt (α:=ZL) (p:=fun i ns=>ns.length=es/\∀(q:Nat) (x:Value),(ns.map (Value.int .i64))[q]? = some x->w.cell? ⟨b,o+i*es+q,none⟩=some x) (n:=len) (fun i hi=>by
   obtain⟨cs',h1,h2⟩:=hall i oM;obtain⟨_,ns,rfl⟩:=uL 6 e n cs' _ hf h2;obtain⟨_,hlen,hcell⟩:=World.cells?_some h1;rw [hes] at hlen hcell;refine⟨ns,by simpa using hlen,fun q x hq=>?_⟩;have hq':=(List.getElem?_eq_some_iff.1 hq).1;have:=hcell q oM;rw [Go.Aw.add_eq,Go.Aw.add_eq] at this;rw [this,hq])
  refine⟨(List.range len).map N,fun ns h=>?_,?_,.inr ⟨b,o,cap,?_,?_,?_⟩⟩
  ·obtain⟨i,hi,rfl⟩:=List.mem_map.1 h;exact(hN i (by simpa using hi)).1
  ·have:maxLen=9223372036854775807:=rfl;simp;omega
  ·simp
  ·simpa using hl
  ·refine aDq (es:=es) _ o (fun j ns hj=>?_);have hjl:=(List.getElem?_eq_some_iff.1 hj).1;simp only [List.length_map,List.length_range] at hjl;have:N j=ns:=by simpa [hjl] using hj
   subst this;exact hN j hjl
def rho (es:Nat):Value->Option (Nat×Nat×Nat) | .slice (some a) _ cap=>some (a.block,a.off,cap*es) | _=>none
theorem aP4 {es:Nat} {v:Value} {nss:List ZL} {ρ:Env} {k:Nat} (h:aBt w es v nss)(hk:ρ k=rho es v):Rel ρ (.s k 0 nss.length es) v:=by
 obtain⟨h1,h2,⟨rfl,rfl⟩ | ⟨b,o,cap,rfl,h3,h4⟩⟩:=h
 ·simp only [Rel];exact .inl ⟨hk,rfl,trivial⟩
 ·simp only [Rel];exact .inr ⟨b,o,cap*es,cap,0,none,hk,rfl,h3,by omega,fun _=>⟨rfl,rfl⟩⟩
theorem aA1 {es:Nat}:∀{nss:List ZL},(∀ns∈nss,ns.length=es)->nss.flatten.length=nss.length*es
 | [],_=>by simp
 | ns::l,h=>by
  rw [List.flatten_cons,List.length_append,aA1 (fun m hm=>h m (List.mem_cons_of_mem _ hm)),h ns List.mem_cons_self,List.length_cons,Nat.add_mul];omega
theorem aMq {es:Nat} {v:Value} {nss:List ZL} {ρ:Env} {k:Nat} {M:Nat->Prop} (h:aBt w es v nss)(hk:ρ k=rho es v)(hM:∀b,M b->w.heap.size<=b):BRep ρ M w k (.live false true ((nss.flatten).map iv)):=by
 obtain⟨h1,h2,⟨rfl,rfl⟩ | ⟨b,o,cap,rfl,h3,h4⟩⟩:=h
 ·exact .inl ⟨hk,rfl⟩
 ·have hlen:=aA1 h1;refine .inr ⟨b,o,cap*es,(nss.flatten).map (Value.int .i64),hk,⟨?_,fun hne hm=>?_⟩,aHm _,h4⟩
  ·rw [List.length_map,hlen];exact Nat.mul_le_mul_right _ h3
  ·have hb:=hM b hm;obtain⟨x,hx⟩:=List.exists_mem_of_ne_nil _ hne;obtain⟨i,hi⟩:=List.getElem?_of_mem hx;have:=World.block_lt_of_cell? w ⟨b,o+i,none⟩ (h4 i x hi);exact absurd this (Nat.not_lt_of_le hb)
theorem aOa {α:Type} {c:α->List SV} {f:ZL->α} {es:Nat} (hc:∀ns:ZL,ns.length=es->c (f ns)=ns.map iv):∀{nss:List ZL},(∀ns∈nss,ns.length=es)->flat c (nss.map f)=(nss.flatten).map iv
 | [],_=>rfl
 | ns::l,h=>by
  have:=aOa hc (nss:=l) (fun m hm=>h m (List.mem_cons_of_mem _ hm));unfold flat at *;rw [List.map_cons,List.flatMap_cons,this,hc ns (h ns List.mem_cons_self),List.flatten_cons,List.map_append]
end
theorem aGe:∀ns:ZL,Plain (ns.map iv)
 | []=>fun k hk=>by simp [SV.hasl] at hk
 | n::l=>fun k hk=>by
  simp only [List.map_cons,SV.hasl] at hk;rcases hk with hk | hk
  ·simp [iv,SV.has] at hk
  ·exact aGe l k hk
theorem aMr {P:Program} {f:Nat} {args:List SV} {vs:List Value} {x:Value} {bs:List BK} (hc:Con P f args bs (.v x) []) (ρ:Env) {W:World} (hr:Rels ρ args vs)(hown:∀i,¬(bs.getD i .un).own)
 (hb:(∀b,(cO ρ W bs).mine b->W.heap.size<=b)->∀i,BRep ρ (cO ρ W bs).mine W i (bs.getD i .un)) (hpl:∀i,(bs.getD i .un).pl) (hnf:∀b,ρ.fz b=none) :
 Calls P f vs.toArray W fun e W'=>e=.returned x/\Below W.heap.size W W':=by
 have hM:∀b,(cO ρ W bs).mine b->W.heap.size<=b:=by
  rintro b (h | ⟨i,n,hi,_⟩)
  ·exact h
  ·exact absurd hi (hown i)
 refine(hc.2 ρ W vs hr (hb hM) hpl (fun i j b n b' n' _ h=>absurd h (hown i)) (fun b o h=>by rw [hnf b] at h;cases h)).mono fun e W' h=>?_
 obtain⟨ρ',v,rfl,_,hv,hk,_⟩:=h;refine⟨by rw [show v=x from hv],hk.os,hk.tape,hk.output,hk.size,fun k hk'=>hk.block k hk' ?_⟩
 rintro ⟨i,n,hi,_⟩
 exact hown i hi
def bEx (e:Nat)(v:Value):Env:=⟨fun k=>if k=0 then rho e v else none,fun _=>none⟩
theorem aMs {P:Program} {f es0:Nat} {args:List SV} {vs:List Value} {x v0:Value} {nss0:List ZL} {W:World} (hc:Con P f args [.live false true ((nss0.flatten).map iv)] (.v x) [])
 (s0:aBt W es0 v0 nss0) (hr:Rels (bEx es0 v0) args vs):Calls P f vs.toArray W fun e W'=>e=.returned x/\Below W.heap.size W W':=by
 refine aMr hc _ hr (fun i=>?_) (fun hM i=>?_) (fun i=>?_) (fun _=>rfl)
 ·rcases i with _ | i<;>simp [BK.own]
 ·rcases i with _ | i
  ·exact aMq s0 rfl hM
  ·simp [BRep]
 ·rcases i with _ | i
  ·exact aGe _
  ·simp [BK.pl]
end Go.Proofs.YtlffahoikfahlaaGreat
namespace Go.Proofs.YtlffahoikfahlaaGreat
open Go.Proofs Go.Aw Go.RowKit
set_option maxRecDepth 100000
theorem mT {α:Type} {c:α->List SV} (hc:∀x,(c x).all SV.one=true) {l:List α}:(flat c l).all SV.one=true:=by
 rw [List.all_eq_true];intro x hx;obtain⟨a,_,ha⟩:=List.mem_flatMap.1 hx;exact List.all_eq_true.1 (hc a) x ha
theorem dD {α:Type} {c:α->List SV} {es:Nat} (hc:∀x,(c x).length=es)(l:List α):(flat c l).length=l.length*es:=sZ hc l
def okw (v:Zs)(n:Nat):Prop:=(-4611686018427387904+1099511627776*n<=v.1/\v.1+1099511627776*n<=4611686018427387904)/\(-4611686018427387904+1099511627776*n<=v.2/\v.2+1099511627776*n<=4611686018427387904)
theorem aSo {v a:Zs} {n:Nat} (h:okw v (n+1))(ha:vs a):okw (v.1+a.1,v.2+a.2) n:=by unfold okw vs at *;simp only;omega
theorem bB8 {v:Zs} {n:Nat} (h:okw v n):W v.1=v.1/\W v.2=v.2:=by unfold okw at h;exact⟨aH oM oM,aH oM oM⟩
theorem aXi {n:Nat} (h:n<=10000):okw (0,0) n:=by unfold okw;simp only;omega
theorem aDr {R:Type} [Inhabited R] {S:Zt->Zt⊕R} {G:Zs->R} {L:List Zs} (hl:∀a∈L,vs a)
 (hS:∀(i:Nat) (a:Zs),L[i]? = some a->∀v1 v2:Int,S (v1,v2,(i:Int))=.inl (W (v1+a.1),W (v2+a.2),((i+1:Nat):Int)))
 (hE:∀v1 v2:Int,S (v1,v2,(L.length:Int))=.inr (G (v1,v2))) :
 ∀(l:List Zs) (i n:Nat) (v:Zs),L.drop i=l->i<=L.length->l.length < n->okw v l.length->aG S n (v.1,v.2,(i:Int))=G (wU l v):=by
 intro l
 induction l with
 | nil =>
  intro i n v hd hi' hn h;have:i=L.length:=by have:=List.drop_eq_nil_iff.1 hd;omega
  obtain⟨n,rfl⟩:∃m,n=m+1:=⟨n - 1,by simp only [List.length_nil] at hn;omega⟩;subst this;rw [aL (hE _ _)];rfl
 | cons c l ih =>
  intro i n v hd hi' hn h;have hc:L[i]? = some c:=by
   have:(L.drop i)[0]? = some c:=by rw [hd];rfl
   simpa using this
  obtain⟨hlt,hce⟩:=List.getElem?_eq_some_iff.1 hc;obtain⟨n,rfl⟩:∃m,n=m+1:=⟨n - 1,by omega⟩;have h1:okw (v.1+c.1,v.2+c.2) l.length:=aSo h (hl c (hce▸List.getElem_mem hlt));have hw:=bB8 h1;simp only at hw;rw [aK (hS i c hc v.1 v.2),hw.1,hw.2];exact ih _ _ _ (by rw [←List.drop_drop,hd];rfl) oM (by simp only [List.length_cons] at hn;omega) h1
section
variable {l : List Zs}
theorem aDs {a:Zs} (h:vs a):uZ a=true:=aN5 (a:=a.1) (b:=a.2) h.1 h.2.1 h.2.2
theorem bEy (hl:∀a∈l,vs a):aF6 l=0:=by
 have key:∀(m:List Zs) (i n:Nat),l.drop i=m->i<=l.length->m.length < n->aG (rJ l) n (i:Int)=0:=by
  intro m
  induction m with
  | nil =>
   intro i n hd hi hn;have:i=l.length:=by have:=List.drop_eq_nil_iff.1 hd;omega
   obtain⟨n,rfl⟩:∃m,n=m+1:=⟨n - 1,by simp only [List.length_nil] at hn;omega⟩;subst this;refine aL ?_;simp only [rJ];rw [cA (Int.lt_irrefl _),cond_false]
  | cons c m ih =>
   intro i n hd hi hn;have hc:l[i]? = some c:=by
    have:(l.drop i)[0]? = some c:=by rw [hd];rfl
    simpa using this
   obtain⟨hlt,hce⟩:=List.getElem?_eq_some_iff.1 hc;obtain⟨n,rfl⟩:∃m,n=m+1:=⟨n - 1,by omega⟩;have hg:l.getD i dF=c:=by rw [gS,hc];rfl
   have e:rJ l (i:Int)=.inl ((i+1:Nat):Int):=by
    simp only [rJ];rw [bX (show((i:Nat):Int) < (l.length:Nat) by omega),cond_true,iB,hg,aDs (hl c (hce▸List.getElem_mem hlt))];rfl
   rw [aK e];exact ih _ _ (by rw [←List.drop_drop,hd];rfl) oM (by simp only [List.length_cons] at hn;omega)
 unfold aF6;exact key l 0 _ rfl (Nat.zero_le _) oM
theorem aZk (hl:∀a∈l,vs a)(hn:l.length<=10000):qO l=((wU l (0,0)).1,(wU l (0,0)).2,0):=by
 unfold qO;rw [cA oM,cond_false,bEy hl];show aG _ _ (((0,0):Zs).1,((0,0):Zs).2,((0:Nat):Int))=_;refine aDr (G:=fun v=>(v.1,v.2,0)) hl (fun i a hi v1 v2=>?_) (fun v1 v2=>?_) l 0 _ (0,0) rfl (Nat.zero_le _) oM (aXi hn)
 ·obtain⟨hlt,hce⟩:=List.getElem?_eq_some_iff.1 hi;have hg:l.getD i dF=a:=by rw [gS,hi];rfl
  simp only [xY];rw [bX (show((i:Nat):Int) < (l.length:Nat) by omega),cond_true,iB,hg];rfl
 ·simp only [xY];rw [cA (Int.lt_irrefl _),cond_false]
theorem aZl (hl:∀a∈l,vs a)(hn:l.length<=10000):qQ l=((wU l (0,0)).1,(wU l (0,0)).2,0):=by
 unfold qQ;rw [cA oM,cond_false];show aG _ _ (((0,0):Zs).1,((0,0):Zs).2,((0:Nat):Int))=_;refine aDr (G:=fun v=>(v.1,v.2,0)) hl (fun i a hi v1 v2=>?_) (fun v1 v2=>?_) l 0 _ (0,0) rfl (Nat.zero_le _) oM (aXi hn)
 ·obtain⟨hlt,hce⟩:=List.getElem?_eq_some_iff.1 hi;have hg:l.getD i dF=a:=by rw [gS,hi];rfl
  simp only [xZ];rw [bX (show((i:Nat):Int) < (l.length:Nat) by omega),cond_true,iB,hg,show xE a=true from aDs (hl a (hce▸List.getElem_mem hlt))];rfl
 ·simp only [xZ];rw [cA (Int.lt_irrefl _),cond_false]
noncomputable def aDt (l:List Zs):Zs×Int:=sT (wU l (0,0)).1 (wU l (0,0)).2
theorem aSp (hl:∀a∈l,vs a)(hn:l.length<=10000):qP l=aDt l:=by
 unfold qP;rw [aZk hl hn];rfl
theorem aXj (hl:∀a∈l,vs a)(hn:l.length<=10000):vM l=aDt l:=by
 unfold vM;rw [aZl hl hn];rfl
end
theorem aSq {a:Zs} {n:Int} (h:(xF a n).2=0):vs (xF a n).1:=by
 have h0:=h;unfold xF at h0;cases h1:((pF a:Int) != 0)
 case true=>rw [h1,cond_true] at h0;exact absurd h0 (bne_iff_ne.1 h1)
 rw [h1,cond_false] at h0;cases h2:(!(F80 n))
 case true=>rw [h2,cond_true] at h0;exact absurd h0 (by decide)
 obtain⟨x,y,e⟩:∃x y,xF a n=sT x y:=⟨_,_,by unfold xF;rw [h1,cond_false,h2,cond_false]⟩;rw [e] at h ⊢;rcases aGd x y with⟨e1,e2⟩ | e1
 ·rw [e1];exact e2
 ·rw [e1] at h;exact absurd h (by decide)
end Go.Proofs.YtlffahoikfahlaaGreat
namespace Go.Proofs.YtlffahoikfahlaaGreat
open Go.Proofs Go.Aw Go.RowKit
set_option maxRecDepth 100000
theorem uN {l:List (PN×Int)} (h:iH l=0):l.length<=96:=by
 rcases Nat.lt_or_ge 96 l.length with h' | h'
 ·exfalso;unfold iH at h;rw [bX oM,cond_true] at h;exact absurd h (by decide)
 ·exact h'
theorem bE {α:Type} {c:α->List SV} {es:Nat} (hc:∀x,(c x).length=es) {L:List α} {i o:Nat} {xs:List SV} {d y:α} (hi:i < L.length)(ho:o+xs.length<=es)(hy:c y=splice (c (L.getD i d)) o xs) :
 splice (flat c L) (0+i*es+o) xs=flat c (L.set i y):=by
 induction L generalizing i with
 | nil=>simp at hi
 | cons x L ih =>
  cases i with
  | zero =>
   have hy':c y=splice (c x) o xs:=hy;have hx:=hc x;simp only [flat,List.flatMap_cons,List.set_cons_zero,hy'];unfold splice;simp only [Nat.zero_mul,Nat.zero_add];rw [List.take_append_of_le_length oM,List.drop_append_of_le_length oM];simp [List.append_assoc]
  | succ i =>
   have h:=ih (i:=i) (by simpa using hi) hy;have hx:=hc x;simp only [flat,List.flatMap_cons,List.set_cons_succ] at h ⊢;rw [←h];unfold splice;have e1:0+(i+1)*es+o=(c x).length+(0+i*es+o):=by rw [hx,Nat.add_mul];omega
   rw [e1,List.take_length_add_append,show(c x).length+(0+i*es+o)+xs.length=(c x).length+(0+i*es+o+xs.length) by omega,List.drop_length_add_append];simp [List.append_assoc]
theorem dR {α:Type} {c:α->List SV} {es:Nat} (hc:∀x,(c x).length=es) {L:List α} {i o n:Nat} (hi:i < L.length)(ho:o+n<=es):0+i*es+o+n<=(flat c L).length:=by
 rw [sZ hc];have:=Nat.mul_le_mul_right es (show i+1<=L.length by omega);rw [Nat.add_mul] at this;omega
noncomputable def yG:=aU [1,1,1,1,0,1] [] (aV Tryz.f12) []
def aDu (a0:bV)(a1:Zt)(a2:Int)(v2c:List SV)(v2n:Nat)(v3:Int):LS:=⟨gU 67 [(2,(iv a2)),(4,(.p 1 0)),(6,(.p 2 0)),(9,(.s 3 0 v2n 2)),(29,(.s 0 0 a0.length 10)),(30,(iv (a0.length:Int))),(31,(iv v3))],[(.live false true (flat dI a0)),(.live true false (k3 a1)),(.live true false [(iv 0),(iv 0)]),(.live true true v2c)]⟩
def rO (a0:bV)(a1:Zt)(a2:Int):(List Zs)×Int->((List Zs)×Int)⊕(Zs×Int) | (v2,v3) => (bif (decide ((v3:Int) < (a0.length:Int)))then(bif (((wS (a0.getD (tN v3) dF).1 a1 a2).2:Int) != 0)then(.inr ((0,0),(wS (a0.getD (tN v3) dF).1 a1 a2).2))else(bif (((xF (wS (a0.getD (tN v3) dF).1 a1 a2).1 (a0.getD (tN v3) dF).2).2:Int) != 0)then(.inr ((0,0),(xF (wS (a0.getD (tN v3) dF).1 a1 a2).1 (a0.getD (tN v3) dF).2).2))else(.inl ((v2++[(xF (wS (a0.getD (tN v3) dF).1 a1 a2).1 (a0.getD (tN v3) dF).2).1]),(v3+1)))))else(.inr ((qP v2).1,(qP v2).2)))
theorem aVz (a0:bV)(a1:Zt)(a2:Int)(l0:a0.length<=2^63-1) {cx:Cx} (hcx:cx.base=1):∀(n:Nat) (v2:List Zs) (v3:Int),(0<=v3)/\(iH a0=0)/\(v2.length=tN v3)/\(v3<=a0.length)->tN ((a0.length:Int) - v3) < n->gG Tryz.f12 cx (.t [(.a (k2 (aG (rO a0 a1 a2) n (v2,v3)).1)),(iv (aG (rO a0 a1 a2) n (v2,v3)).2)]) [] [] (.l yG.1 n::yG.2) (aDu a0 a1 a2 (flat lF v2) v2.length v3):=by
 intro n
 induction n with|zero=>intro v2 v3 hi hn;exact absurd hn (dX _)|succ n ih=>?_
 intro v2 v3 hi hn;refine aN ?_;have hvl:=uN (l:=a0) oM;rw [aZ,rO];cases h0:(decide ((v3:Int) < (a0.length:Int)))
 case true=>
  have q0:=eS h0;let t1:SL:=[.d h0,.i v3 (a0.length),.L cQ a0 v3 0 10,.c [] (C42 (a0.getD (tN v3) dF).1 a1 a2)];cases h1:(((wS (a0.getD (tN v3) dF).1 a1 a2).2:Int) != 0)
  case true=>exact rT (t1++[.d h1]) hcx
  let t2:SL:=t1++[.d h1,.c [] (C43 (wS (a0.getD (tN v3) dF).1 a1 a2).1 (a0.getD (tN v3) dF).2)];cases h2:(((xF (wS (a0.getD (tN v3) dF).1 a1 a2).1 (a0.getD (tN v3) dF).2).2:Int) != 0)
  case true=>exact rT (t2++[.d h2]) hcx
  refine bA n (t2++[.d h2,.p (show((flat lF v2).length=v2.length*2/\v2.length+1<=2 ^ 40/\(v2.length+1)*16<=2 ^ 47) from iS kA oM oM)]) [2,4,6,9,29,30,31] [1,2,7] hcx yG (aDu a0 a1 a2 (flat lF v2++(k2 (xF (wS (a0.getD (tN v3) dF).1 a1 a2).1 (a0.getD (tN v3) dF).2).1)) (v2.length+1) (W (v3+1))) ?_;have z0:(W (v3+1))=(v3+1):=aH oM oM;have z1:(flat lF v2++(k2 (xF (wS (a0.getD (tN v3) dF).1 a1 a2).1 (a0.getD (tN v3) dF).2).1))=_:=(bQ (c:=lF) (l:=v2) (m:=[(xF (wS (a0.getD (tN v3) dF).1 a1 a2).1 (a0.getD (tN v3) dF).2).1])).symm;have z2:(v2.length+1)=_:=jN v2 [(xF (wS (a0.getD (tN v3) dF).1 a1 a2).1 (a0.getD (tN v3) dF).2).1] rfl;rw [z0,z1,z2];exact ih _ _ oR oM
 have q0:=iF h0;exact rT [.d h0,.c [3] (aRl v2 oM)] hcx
def qT (a0:bV)(a1:Zt)(a2:Int):Zs×Int := (bif (((iH a0):Int) != 0)then((0,0),(iH a0))else(bif (!(F40 a1))then((0,0),1)else(bif (!(F41 a2 0 3))then((0,0),1)else(aG (rO a0 a1 a2) (tN ((a0.length:Int) - 0)+1) (([]:List Zs),0)))))
theorem bB9 (a0:bV)(a1:Zt)(a2:Int)(l0:a0.length<=2^63-1):Con Tryz.prog 12 [(.s 0 0 a0.length 10),(.a (k3 a1)),(iv a2)] [(.live false true (flat dI a0))] (.t [(.a (k2 (qT a0 a1 a2).1)),(iv (qT a0 a1 a2).2)]) []:=by
 refine cS Tryz.func12 fun cx hcx=>?_
 let t0:SL:=[.c [0] (aN1 a0 oM)];rw [qT];cases h0:(((iH a0):Int) != 0)
 case true=>exact rT (t0++[.d h0]) hcx
 have q0:=bne_eq_false_iff_eq.1 h0;let t1:SL:=t0++[.d h0,.c [] (C40 a1)];cases h1:(!(F40 a1))
 case true=>exact rT (t1++[.d h1]) hcx
 let t2:SL:=t1++[.d h1,.c [] (C41 a2 0 3)];cases h2:(!(F41 a2 0 3))
 case true=>exact rT (t2++[.d h2]) hcx
 refine en (t2++[.d h2]) [.slot 9 2] [2,4,6,9,29,30,31] [1,2,3] hcx yG.1 yG.2 (aDu a0 a1 a2 (flat lF ([]:List Zs)) 0 0) (tN ((a0.length:Int) - 0)+1) oK ?_;exact aVz a0 a1 a2 l0 hcx (tN ((a0.length:Int) - 0)+1) ([]:List Zs) 0 oR oM
theorem aZm (w i es x:Nat):0+w*es+i*es+x=0+(w+i)*es+x:=by rw [Nat.add_mul];omega
theorem aO {α:Type} {c:α->List SV} {es:Nat} (hc:∀x,(c x).length=es) {L:List α} {w i o:Nat} {xs:List SV} {d y:α} (hi:w+i < L.length)(ho:o+xs.length<=es)(hy:c y=splice (c (L.getD (w+i) d)) o xs) :
 splice (flat c L) (0+w*es+i*es+o) xs=flat c (L.set (w+i) y):=by rw [aZm];exact bE hc hi ho hy
theorem aY {α:Type} {c:α->List SV} {es:Nat} (hc:∀x,(c x).length=es) {L:List α} {w i o n:Nat} (hi:w+i < L.length)(ho:o+n<=es):0+w*es+i*es+o+n<=(flat c L).length:=by rw [aZm];exact dR hc hi ho
theorem ldw {α:Type} [Inhabited α] {c:α->List SV} {es:Nat} (hc:∀x,(c x).length=es)(l:List α)(w:Nat)(i:Int)(o n:Nat)(h:w+i.toNat < l.length)(ho:o+n<=es) :
 ((flat c l).drop (0+w*es+i.toNat*es+o)).take n=((c (l.getD (w+i.toNat) dF)).drop o).take n:=by
 rw [aZm];have:=aNx hc l ((w+i.toNat:Nat):Int) o n ⟨by omega,by omega⟩ ho;rw [iB] at this;exact this
def cL {P:Program} {α:Type} [Inhabited α] {c:α->List SV} {es:Nat} (hc:∀x,(c x).length=es)(l:List α)(w:Nat)(i:Int)(o n:Nat)(h:w+i.toNat < l.length:=by first | omega | (simp only [Lt];omega)) (ho:o+n<=es:=by decide):St P :=
 St.l (l:=flat c l) (o:=0+w*es+i.toNat*es+o) (n:=n) (((c (l.getD (w+i.toNat) dF)).drop o).take n) (ldw hc l w i o n h ho)
def InR (n:Nat)(l:ZL):Prop:=∀x∈l,0<=x/\x < (n:Int)
theorem InR.at {n:Nat} {l:ZL} (h:InR n l) {i:Nat} (hi:i < l.length):0<=l.getD i dF/\l.getD i dF < (n:Int):=by
 rw [gS,List.getElem?_eq_getElem hi,Option.getD_some];exact h _ (List.getElem_mem hi)
theorem InR.set {n:Nat} {l:ZL} (h:InR n l) {i:Nat} {x:Int} (hx:0<=x/\x < (n:Int)):InR n (l.set i x):=fun y hy=>by
 rcases List.mem_or_eq_of_mem_set hy with hy | rfl
 ·exact h y hy
 ·exact hx
theorem InR.swap {n:Nat} {l:ZL} (h:InR n l) {i j p q:Nat} (hp:p < l.length)(hq:q < l.length):InR n ((l.set i (l.getD p dF)).set j (l.getD q dF)):=(h.set (h.at hp)).set (h.at hq)
def cR (x:Int×Int×Int×Int×Zt×Int):List SV:=[(iv x.1),(iv x.2.1),(iv x.2.2.1),(iv x.2.2.2.1),(iv x.2.2.2.2.1.1),(iv x.2.2.2.2.1.2.1),(iv x.2.2.2.2.1.2.2),(iv x.2.2.2.2.2)]
theorem cC (x:Int×Int×Int×Int×Zt×Int):(cR x).length=8:=rfl
def mU (a0:bV×Int×ZL×cV)(a1 a2:Int):Int := (bif ((a2:Int) == 0)then(W ((W ((a0.1.getD (tN a1) dF).1.1.1+(a0.1.getD (tN a1) dF).1.2.1.1))+(a0.1.getD (tN a1) dF).1.2.2.1))else(bif ((a2:Int) == 1)then(W ((W ((a0.1.getD (tN a1) dF).1.1.2.1+(a0.1.getD (tN a1) dF).1.2.1.2.1))+(a0.1.getD (tN a1) dF).1.2.2.2.1))else(W ((W ((a0.1.getD (tN a1) dF).1.1.2.2+(a0.1.getD (tN a1) dF).1.2.1.2.2))+(a0.1.getD (tN a1) dF).1.2.2.2.2))))
theorem aP5 (a0:bV×Int×ZL×cV)(a1 a2:Int)(l0_1:a0.1.length<=2^63-1)(l0_2_2_1:a0.2.2.1.length<=2^63-1)(l0_2_2_2:a0.2.2.2.length<=2^63-1)(hi:0<=a1/\a1 < (a0.1.length:Int)):Con Tryz.prog 162 [(.p 0 0),(iv a1),(iv a2)] [(.live false false [(.s 1 0 a0.1.length 10),(iv a0.2.1),(.s 2 0 a0.2.2.1.length 1),(.s 3 0 a0.2.2.2.length 8)]),(.live false true (flat dI a0.1)),(.live false true (flat c3 a0.2.2.1)),(.live false true (flat cR a0.2.2.2))] (iv (mU a0 a1 a2)) []:=by
 refine cS Tryz.func162 fun cx hcx=>?_
 let t0:SL:=[.i a1 (a0.1.length),.L cQ a0.1 a1 0 9];rw [mU];cases h0:((a2:Int) == 0)
 case true=>exact rT (t0++[.d h0]) hcx
 let t1:SL:=t0++[.d h0];cases h1:((a2:Int) == 1)
 case true=>exact rT (t1++[.d h1]) hcx
 exact rT (t1++[.d h1]) hcx
def aHr (a0:Int):Bool := ((a0:Int) != a0)
theorem bCa (a0:Int):Con Tryz.prog 192 [(iv a0)] [] (.v (.bool (aHr a0))) []:=by
 refine cS Tryz.func192 fun cx hcx=>?_
 exact rT [] hcx
def aFb (a0 a1:Int):Int := (bif (aHr a0)then(bif (aHr a1)then 0 else(-1))else(bif (aHr a1)then 1 else(bif (decide ((a0:Int) < a1))then(-1)else(bif (decide ((a0:Int) > a1))then 1 else 0))))
theorem bCb (a0 a1:Int):Con Tryz.prog 164 [(iv a0),(iv a1)] [] (iv (aFb a0 a1)) []:=by
 refine cS Tryz.func164 fun cx hcx=>?_
 let t0:SL:=[.c [] (bCa a0),.c [] (bCa a1)];rw [aFb];cases h0:(aHr a0)
 case true=>
  let t1:SL:=t0++[.d h0];cases h1:(aHr a1)
  case true=>exact rT (t1++[.d h1]) hcx
  exact rT (t1++[.d h1]) hcx
 let t1:SL:=t0++[.d h0];cases h1:(aHr a1)
 case true=>exact rT (t1++[.d h1]) hcx
 let t2:SL:=t1++[.d h1];cases h2:(decide ((a0:Int) < a1))
 case true=>exact rT (t2++[.d h2]) hcx
 let t3:SL:=t2++[.d h2];cases h3:(decide ((a0:Int) > a1))
 case true=>exact rT (t3++[.d h3]) hcx
 exact rT (t3++[.d h3]) hcx
def aDv (a0:(Int)×(Int)):Int := (bif ((a0.1:Int) != 0)then a0.1 else(bif ((a0.2:Int) != 0)then a0.2 else 0))
theorem aZn (a0:(Int)×(Int)):Con Tryz.prog 163 [(.s 0 0 2 1)] [(.live false false [(iv a0.1),(iv a0.2)])] (iv (aDv a0)) []:=by
 refine cS Tryz.func163 fun cx hcx=>?_
 let t0:SL:=[.u 200,.T,.i 0 2];rw [aDv];cases h0:((a0.1:Int) != 0)
 case true=>exact rT (t0++[.d h0]) hcx
 let t1:SL:=t0++[.d h0,.u 0,.T,.i 1 2];cases h1:((a0.2:Int) != 0)
 case true=>exact rT (t1++[.d h1]) hcx
 exact rT (t1++[.d h1,.u 0,.F]) hcx
def iC (a0:eG×Int)(a1 a2:Int):Int := (aDv ((aFb (mU (a0.1.1,a0.1.2.1,(a0.1.2.2.1,a0.1.2.2.2)) a1 a0.2) (mU (a0.1.1,a0.1.2.1,(a0.1.2.2.1,a0.1.2.2.2)) a2 a0.2)),(aFb a1 a2)))
theorem vB (a0:eG×Int)(a1 a2:Int)(l0_1_1:a0.1.1.length<=2^63-1)(l0_1_2_2_1:a0.1.2.2.1.length<=2^63-1)(l0_1_2_2_2:a0.1.2.2.2.length<=2^63-1)(hi:0<=a1/\a1 < (a0.1.1.length:Int))(hk:0<=a2/\a2 < (a0.1.1.length:Int)):Con Tryz.prog 126 [(.a [(.p 0 0),(iv a0.2)]),(iv a1),(iv a2)] [(.live false false [(.s 1 0 a0.1.1.length 10),(iv a0.1.2.1),(.s 2 0 a0.1.2.2.1.length 1),(.s 3 0 a0.1.2.2.2.length 8)]),(.live false true (flat dI a0.1.1)),(.live false true (flat c3 a0.1.2.2.1)),(.live false true (flat cR a0.1.2.2.2))] (iv (iC a0 a1 a2)) []:=by
 refine cS Tryz.func126 fun cx hcx=>?_
 exact rT [.c [0,1,2,3] (aP5 (a0.1.1,a0.1.2.1,(a0.1.2.2.1,a0.1.2.2.2)) a1 a0.2 oM oM oM (by first | exact hi | exact hk)),.c [0,1,2,3] (aP5 (a0.1.1,a0.1.2.1,(a0.1.2.2.1,a0.1.2.2.2)) a2 a0.2 oM oM oM (by first | exact hi | exact hk)),.c [] (bCb (mU (a0.1.1,a0.1.2.1,(a0.1.2.2.1,a0.1.2.2.2)) a1 a0.2) (mU (a0.1.1,a0.1.2.1,(a0.1.2.2.1,a0.1.2.2.2)) a2 a0.2)),.c [] (bCb a1 a2),.c [5] (aZn ((aFb (mU (a0.1.1,a0.1.2.1,(a0.1.2.2.1,a0.1.2.2.2)) a1 a0.2) (mU (a0.1.1,a0.1.2.1,(a0.1.2.2.1,a0.1.2.2.2)) a2 a0.2)),(aFb a1 a2)))] hcx
noncomputable def pR:Code:=(aU [1,0,1,0,1] [0] (aV Tryz.f182) []).1
noncomputable def pS (m0:Nat):List K:=(aU [1,0,1,0,1] [m0] (aV Tryz.f182) []).2
def oE (a0:ZL)(a0_o a0_n:Nat)(a1 a2:Int)(a3:eG×Int)(v5c:List SV)(v5n:Nat)(v6 v7:Int):LS:=⟨gU 53 [(0,(.s 0 (0+a0_o*1) a0_n 1)),(1,(iv a1)),(2,(iv a2)),(3,(.f 1000126 [(.a [(.p 1 0),(iv a3.2)])])),(8,(iv v6)),(9,(iv v7))],[(.live true true v5c),(.live false false [(.s 2 0 a3.1.1.length 10),(iv a3.1.2.1),(.s 0 0 v5n 1),(.s 3 0 a3.1.2.2.2.length 8)]),(.live false true (flat dI a3.1.1)),(.live false true (flat cR a3.1.2.2.2))]⟩
def eT (a0:ZL)(a0_o a0_n:Nat)(a1 a2:Int)(a3:eG×Int):ZL×Int×Int->(ZL×Int×Int)⊕((ZL×Int)⊕ZL) | (v5,v6,v7) => (bif (decide ((v7:Int) > a1))then(bif (decide (((iC ((a3.1.1,a3.1.2.1,(v5,a3.1.2.2.2)),a3.2) (v5.getD (a0_o+tN v7) dF) (v5.getD (a0_o+tN (W (v7 - 1))) dF)):Int) < 0))then(.inl (((v5.set (a0_o+tN v7) (v5.getD (a0_o+tN (W (v7 - 1))) dF)).set (a0_o+tN (W (v7 - 1))) (v5.getD (a0_o+tN v7) dF)),v6,(W (v7 - 1))))else(.inr (.inl (v5,(v6+1)))))else(.inr (.inl (v5,(v6+1)))))
noncomputable def gJ:=aU [1] [] (aV Tryz.f182) []
def jF (a0:ZL)(a0_o a0_n:Nat)(a1 a2:Int)(a3:eG×Int)(v3c:List SV)(v3n:Nat)(v4:Int):LS:=⟨gU 53 [(0,(.s 0 (0+a0_o*1) a0_n 1)),(1,(iv a1)),(2,(iv a2)),(3,(.f 1000126 [(.a [(.p 1 0),(iv a3.2)])])),(8,(iv v4))],[(.live true true v3c),(.live false false [(.s 2 0 a3.1.1.length 10),(iv a3.1.2.1),(.s 0 0 v3n 1),(.s 3 0 a3.1.2.2.2.length 8)]),(.live false true (flat dI a3.1.1)),(.live false true (flat cR a3.1.2.2.2))]⟩
def eU (a0:ZL)(a0_o a0_n:Nat)(a1 a2:Int)(a3:eG×Int):ZL×Int->(ZL×Int)⊕ZL | (v3,v4) => (bif (decide ((v4:Int) < a2))then(aG (eT a0 a0_o a0_n a1 a2 a3) (tN (v4 - a1)+1) (v3,v4,v4))else(.inr v3))
theorem aFc (a0:ZL)(a0_o a0_n:Nat)(a1 a2:Int)(a3:eG×Int)(l0:a0.length<=2^63-1)(l3_1_1:a3.1.1.length<=2^63-1)(l3_1_2_2_1:a3.1.2.2.1.length<=2^63-1)(l3_1_2_2_2:a3.1.2.2.2.length<=2^63-1)(hw:a0_o+a0_n<=a0.length/\a0.length<=1048576)(hr:InR a3.1.1.length a0)(hab:0<=a1/\a1<=a2/\a2<=↑a0_n) {cx:Cx} (hcx:cx.base=4)
 (n0:Nat) (g0:∀(v3:ZL) (v4:Int),(0<=v4)/\(v3.length=a0.length)/\(InR a3.1.1.length v3)/\(a1 < v4)/\(v4<=a2+1)->tN (a2 - v4) < n0->gG Tryz.f182 cx (.t []) [] [(.live true true (flat c3 (aG (eU a0 a0_o a0_n a1 a2 a3) n0 (v3,v4)))),.un,.un,.un] (.l gJ.1 n0::gJ.2) (jF a0 a0_o a0_n a1 a2 a3 (flat c3 v3) v3.length v4)):∀(n:Nat) (v5:ZL) (v6 v7:Int),(v5.length=a0.length)/\(InR a3.1.1.length v5)/\(a1<=v7)/\(v7<=v6)/\(a1 < v6)/\(v6 < a2)/\((0<=v6))/\((v5.length=a0.length))/\((InR a3.1.1.length v5))/\((a1 < v6))/\((v6<=a2+1))/\(v6 < a2)/\(tN (a2 - v6) < n0+1)->tN (v7 - a1) < n->gG Tryz.f182 cx (.t []) [] [(.live true true (flat c3 (bN (eU a0 a0_o a0_n a1 a2 a3) n0 (aG (eT a0 a0_o a0_n a1 a2 a3) n (v5,v6,v7))))),.un,.un,.un] (.l pR n::pS n0) (oE a0 a0_o a0_n a1 a2 a3 (flat c3 v5) v5.length v6 v7):=by
 intro n
 induction n with|zero=>intro v5 v6 v7 hi hn;exact absurd hn (dX _)|succ n ih=>?_
 intro v5 v6 v7 hi hn;refine aN ?_;have hw_s9m1:=aH (n:=v7 - 1) oM oM;rw [aZ,eT];cases h0:(decide ((v7:Int) > a1))
 case true=>
  have q0:=eS h0;let t1:SL:=[.d h0,.i v7 a0_n,cL aF v5 a0_o v7 0 1,.i (W (v7 - 1)) a0_n,cL aF v5 a0_o (W (v7 - 1)) 0 1,.c [1,2,0,3] (vB ((a3.1.1,a3.1.2.1,(v5,a3.1.2.2.2)),a3.2) (v5.getD (a0_o+tN v7) dF) (v5.getD (a0_o+tN (W (v7 - 1))) dF) oM (by(try simp only [Lt]);omega) oM (hi.2.1.at oM) (hi.2.1.at oM))];cases h1:(decide (((iC ((a3.1.1,a3.1.2.1,(v5,a3.1.2.2.2)),a3.2) (v5.getD (a0_o+tN v7) dF) (v5.getD (a0_o+tN (W (v7 - 1))) dF)):Int) < 0))
  case true=>
   refine ba (t1++[.d h1,.i (W (v7 - 1)) a0_n,cL aF v5 a0_o (W (v7 - 1)) 0 1,.i v7 a0_n,cL aF v5 a0_o v7 0 1,.i v7 a0_n,.p (show((0+a0_o*1+tN v7*1)+1<=(flat c3 v5).length) from(aY aF oL (o:=0) (Nb rfl))),.i (W (v7 - 1)) a0_n,.p (show((0+a0_o*1+tN (W (v7 - 1))*1)+1<=(splice (flat c3 v5) (0+a0_o*1+tN v7*1) [(iv (v5.getD (a0_o+tN (W (v7 - 1))) dF))]).length) from(by rw [show(splice (flat c3 v5) (0+a0_o*1+tN v7*1) [(iv (v5.getD (a0_o+tN (W (v7 - 1))) dF))])=flat c3 (v5.set (a0_o+tN v7) (v5.getD (a0_o+tN (W (v7 - 1))) dF)) from(aO aF oL (o:=0) (d:=dF) (Nb rfl) rfl)];exact aY aF oL (o:=0) (Nb rfl)))]) [] [0,1,2,3,8,9] [] hcx (m:=n) pR (pS n0) (oE a0 a0_o a0_n a1 a2 a3 (splice (splice (flat c3 v5) (0+a0_o*1+tN v7*1) [(iv (v5.getD (a0_o+tN (W (v7 - 1))) dF))]) (0+a0_o*1+tN (W (v7 - 1))*1) [(iv (v5.getD (a0_o+tN v7) dF))]) (v5.length) v6 (W (v7 - 1))) oK ?_;have z0:(splice (splice (flat c3 v5) (0+a0_o*1+tN v7*1) [(iv (v5.getD (a0_o+tN (W (v7 - 1))) dF))]) (0+a0_o*1+tN (W (v7 - 1))*1) [(iv (v5.getD (a0_o+tN v7) dF))])=flat c3 ((v5.set (a0_o+tN v7) (v5.getD (a0_o+tN (W (v7 - 1))) dF)).set (a0_o+tN (W (v7 - 1))) (v5.getD (a0_o+tN v7) dF)):=(by rw [show(splice (flat c3 v5) (0+a0_o*1+tN v7*1) [(iv (v5.getD (a0_o+tN (W (v7 - 1))) dF))])=flat c3 (v5.set (a0_o+tN v7) (v5.getD (a0_o+tN (W (v7 - 1))) dF)) from(aO aF oL (o:=0) (d:=dF) (Nb rfl) rfl)];exact aO aF oL (o:=0) (d:=dF) (Nb rfl) rfl);have z1:v5.length=((v5.set (a0_o+tN v7) (v5.getD (a0_o+tN (W (v7 - 1))) dF)).set (a0_o+tN (W (v7 - 1))) (v5.getD (a0_o+tN v7) dF)).length:=by simp
   rw [z0,z1];exact ih _ _ _ (by refine⟨?_,?_,?_,?_,?_,?_,?_,?_,?_,?_,?_,?_,?_⟩<;>first | omega | assumption | exact hi.2.1 | exact hi.2.2.1 | (simp only [Lt];omega) | exact InR.swap hi.2.1 oM oM) oM
  refine bA n0 (t1++[.d h1]) [0,1,2,3,8] [] hcx gJ (jF a0 a0_o a0_n a1 a2 a3 (flat c3 v5) (v5.length) (W (v6+1))) ?_;have z0:(W (v6+1))=(v6+1):=aH oM oM;rw [z0];exact g0 v5 (v6+1) (by refine⟨?_,?_,?_,?_⟩<;>first | omega | assumption | exact hi.2.1 | exact hi.2.2.1 | (simp only [Lt];omega) | exact InR.swap hi.2.1 oM oM) oM
 have q0:=iF h0;refine bA n0 [.d h0] [0,1,2,3,8] [] hcx gJ (jF a0 a0_o a0_n a1 a2 a3 (flat c3 v5) (v5.length) (W (v6+1))) ?_;have z0:(W (v6+1))=(v6+1):=aH oM oM;rw [z0];exact g0 v5 (v6+1) (by refine⟨?_,?_,?_,?_⟩<;>first | omega | assumption | exact hi.2.1 | exact hi.2.2.1 | (simp only [Lt];omega) | exact InR.swap hi.2.1 oM oM) oM
theorem aFd (a0:ZL)(a0_o a0_n:Nat)(a1 a2:Int)(a3:eG×Int)(l0:a0.length<=2^63-1)(l3_1_1:a3.1.1.length<=2^63-1)(l3_1_2_2_1:a3.1.2.2.1.length<=2^63-1)(l3_1_2_2_2:a3.1.2.2.2.length<=2^63-1)(hw:a0_o+a0_n<=a0.length/\a0.length<=1048576)(hr:InR a3.1.1.length a0)(hab:0<=a1/\a1<=a2/\a2<=↑a0_n) {cx:Cx} (hcx:cx.base=4):∀(n:Nat) (v3:ZL) (v4:Int),(0<=v4)/\(v3.length=a0.length)/\(InR a3.1.1.length v3)/\(a1 < v4)/\(v4<=a2+1)->tN (a2 - v4) < n->gG Tryz.f182 cx (.t []) [] [(.live true true (flat c3 (aG (eU a0 a0_o a0_n a1 a2 a3) n (v3,v4)))),.un,.un,.un] (.l gJ.1 n::gJ.2) (jF a0 a0_o a0_n a1 a2 a3 (flat c3 v3) v3.length v4):=by
 intro n
 induction n with|zero=>intro v3 v4 hi hn;exact absurd hn (dX _)|succ n ih=>?_
 intro v3 v4 hi hn;refine aN ?_;have hw_s8p1:=aH (n:=v4+1) oM oM;rw [aZ,eU];cases h0:(decide ((v4:Int) < a2))
 case true=>have q0:=eS h0;refine en [.d h0] [] [0,1,2,3,8,9] [] hcx pR (pS n) (oE a0 a0_o a0_n a1 a2 a3 (flat c3 v3) (v3.length) v4 v4) (tN (v4 - a1)+1) oK ?_;exact aFc a0 a0_o a0_n a1 a2 a3 l0 l3_1_1 l3_1_2_2_1 l3_1_2_2_2 hw hr hab hcx n ih (tN (v4 - a1)+1) v3 v4 v4 (by refine⟨?_,?_,?_,?_,?_,?_,?_,?_,?_,?_,?_,?_,?_⟩<;>first | omega | assumption | exact hi.2.1 | exact hi.2.2.1 | (simp only [Lt];omega) | exact InR.swap hi.2.1 oM oM) oM
 try dsimp only [bN]
 try dsimp only
 exact rtn [.d h0] [] [0] [] hcx oK
def jG (a0:ZL)(a0_o a0_n:Nat)(a1 a2:Int)(a3:eG×Int):ZL := (aG (eU a0 a0_o a0_n a1 a2 a3) (tN (a2 - (W (a1+1)))+1) (a0,(W (a1+1))))
theorem aKc (a0:ZL)(a0_o a0_n:Nat)(a1 a2:Int)(a3:eG×Int)(l0:a0.length<=2^63-1)(l3_1_1:a3.1.1.length<=2^63-1)(l3_1_2_2_1:a3.1.2.2.1.length<=2^63-1)(l3_1_2_2_2:a3.1.2.2.2.length<=2^63-1)(hw:a0_o+a0_n<=a0.length/\a0.length<=1048576)(hr:InR a3.1.1.length a0)(hab:0<=a1/\a1<=a2/\a2<=↑a0_n):Con Tryz.prog 182 [(.s 0 (0+a0_o*1) a0_n 1),(iv a1),(iv a2),(.f 1000126 [(.a [(.p 1 0),(iv a3.2)])])] [(.live true true (flat c3 a0)),(.live false false [(.s 2 0 a3.1.1.length 10),(iv a3.1.2.1),(.s 0 0 a0.length 1),(.s 3 0 a3.1.2.2.2.length 8)]),(.live false true (flat dI a3.1.1)),(.live false true (flat cR a3.1.2.2.2))] (.t []) [] [(.live true true (flat c3 (jG a0 a0_o a0_n a1 a2 a3))),.un,.un,.un]:=by
 refine cS Tryz.func182 fun cx hcx=>?_
 have hw_a:=aH (n:=a1+1) oM oM;refine eN [] [0,1,2,3,8] [] hcx gJ (jF a0 a0_o a0_n a1 a2 a3 (flat c3 a0) (a0.length) (W (a1+1))) (tN (a2 - (W (a1+1)))+1) ?_;exact aFd a0 a0_o a0_n a1 a2 a3 l0 l3_1_1 l3_1_2_2_1 l3_1_2_2_2 hw hr hab hcx (tN (a2 - (W (a1+1)))+1) a0 (W (a1+1)) (by refine⟨?_,?_,?_,?_⟩<;>first | omega | assumption | exact hi.2.1 | exact hi.2.2.1 | (simp only [Lt];omega) | exact InR.swap hi.2.1 oM oM) oM
noncomputable def lX:=aU [1,1] [] (aV Tryz.f186) []
def oF (a0:ZL)(a0_o a0_n:Nat)(a1 a2:Int)(a3:eG×Int)(v1c:List SV)(v1n:Nat)(v2 v3:Int):LS:=⟨gU 34 [(0,(.s 0 (0+a0_o*1) a0_n 1)),(8,(iv v2)),(9,(iv v3))],[(.live true true v1c),(.live false false [(.s 2 0 a3.1.1.length 10),(iv a3.1.2.1),(.s 0 0 v1n 1),(.s 3 0 a3.1.2.2.2.length 8)]),(.live false true (flat dI a3.1.1)),(.live false true (flat cR a3.1.2.2.2))]⟩
def gK (a0:ZL)(a0_o a0_n:Nat)(a1 a2:Int)(a3:eG×Int):ZL×Int×Int->(ZL×Int×Int)⊕ZL | (v1,v2,v3) => (bif (decide ((v2:Int) < v3))then(.inl (((v1.set (a0_o+tN v2) (v1.getD (a0_o+tN v3) dF)).set (a0_o+tN v3) (v1.getD (a0_o+tN v2) dF)),(v2+1),(W (v3 - 1))))else(.inr v1))
theorem aFe (a0:ZL)(a0_o a0_n:Nat)(a1 a2:Int)(a3:eG×Int)(l0:a0.length<=2^63-1)(l3_1_1:a3.1.1.length<=2^63-1)(l3_1_2_2_1:a3.1.2.2.1.length<=2^63-1)(l3_1_2_2_2:a3.1.2.2.2.length<=2^63-1)(hw:a0_o+a0_n<=a0.length/\a0.length<=1048576)(hr:InR a3.1.1.length a0)(hab:0<=a1/\a1<=a2/\a2<=↑a0_n) {cx:Cx} (hcx:cx.base=4):∀(n:Nat) (v1:ZL) (v2 v3:Int),(v1.length=a0.length)/\(InR a3.1.1.length v1)/\(a1<=v2)/\(-1<=v3)/\(v3 < a2)/\(v2<=a2)->tN (v3 - v2) < n->gG Tryz.f186 cx (.t []) [] [(.live true true (flat c3 (aG (gK a0 a0_o a0_n a1 a2 a3) n (v1,v2,v3)))),.un,.un,.un] (.l lX.1 n::lX.2) (oF a0 a0_o a0_n a1 a2 a3 (flat c3 v1) v1.length v2 v3):=by
 intro n
 induction n with|zero=>intro v1 v2 v3 hi hn;exact absurd hn (dX _)|succ n ih=>?_
 intro v1 v2 v3 hi hn;refine aN ?_;have hw_0:W (v2+1)=v2+1:=(aH (n:=v2+1) oM oM).trans oM;have hw_1:W (v3 - 1)=v3 - 1:=(aH (n:=v3 - 1) oM oM).trans oM;rw [aZ,gK];cases h0:(decide ((v2:Int) < v3))
 case true=>
  have q0:=eS h0;refine bA n [.d h0,.i v3 a0_n,cL aF v1 a0_o v3 0 1,.i v2 a0_n,cL aF v1 a0_o v2 0 1,.i v2 a0_n,.p (show((0+a0_o*1+tN v2*1)+1<=(flat c3 v1).length) from(aY aF oL (o:=0) (Nb rfl))),.i v3 a0_n,.p (show((0+a0_o*1+tN v3*1)+1<=(splice (flat c3 v1) (0+a0_o*1+tN v2*1) [(iv (v1.getD (a0_o+tN v3) dF))]).length) from(by rw [show(splice (flat c3 v1) (0+a0_o*1+tN v2*1) [(iv (v1.getD (a0_o+tN v3) dF))])=flat c3 (v1.set (a0_o+tN v2) (v1.getD (a0_o+tN v3) dF)) from(aO aF oL (o:=0) (d:=dF) (Nb rfl) rfl)];exact aY aF oL (o:=0) (Nb rfl)))] [0,8,9] [] hcx lX (oF a0 a0_o a0_n a1 a2 a3 (splice (splice (flat c3 v1) (0+a0_o*1+tN v2*1) [(iv (v1.getD (a0_o+tN v3) dF))]) (0+a0_o*1+tN v3*1) [(iv (v1.getD (a0_o+tN v2) dF))]) (v1.length) (W (v2+1)) (W (v3 - 1))) ?_;have z0:(W (v2+1))=(v2+1):=aH oM oM;have z1:(splice (splice (flat c3 v1) (0+a0_o*1+tN v2*1) [(iv (v1.getD (a0_o+tN v3) dF))]) (0+a0_o*1+tN v3*1) [(iv (v1.getD (a0_o+tN v2) dF))])=flat c3 ((v1.set (a0_o+tN v2) (v1.getD (a0_o+tN v3) dF)).set (a0_o+tN v3) (v1.getD (a0_o+tN v2) dF)):=(by rw [show(splice (flat c3 v1) (0+a0_o*1+tN v2*1) [(iv (v1.getD (a0_o+tN v3) dF))])=flat c3 (v1.set (a0_o+tN v2) (v1.getD (a0_o+tN v3) dF)) from(aO aF oL (o:=0) (d:=dF) (Nb rfl) rfl)];exact aO aF oL (o:=0) (d:=dF) (Nb rfl) rfl);have z2:v1.length=((v1.set (a0_o+tN v2) (v1.getD (a0_o+tN v3) dF)).set (a0_o+tN v3) (v1.getD (a0_o+tN v2) dF)).length:=by simp
  rw [z0,z1,z2];exact ih _ _ _ (by refine⟨?_,?_,?_,?_,?_,?_⟩<;>first | omega | assumption | exact hi.2.1 | exact hi.2.2.1 | (simp only [Lt];omega) | exact InR.swap hi.2.1 oM oM) oM
 try dsimp only [bN]
 try dsimp only
 exact rtn [.d h0] [] [0] [] hcx oK
def fI (a0:ZL)(a0_o a0_n:Nat)(a1 a2:Int)(a3:eG×Int):ZL := (aG (gK a0 a0_o a0_n a1 a2 a3) (tN ((W (a2 - 1)) - a1)+1) (a0,a1,(W (a2 - 1))))
theorem aKd (a0:ZL)(a0_o a0_n:Nat)(a1 a2:Int)(a3:eG×Int)(l0:a0.length<=2^63-1)(l3_1_1:a3.1.1.length<=2^63-1)(l3_1_2_2_1:a3.1.2.2.1.length<=2^63-1)(l3_1_2_2_2:a3.1.2.2.2.length<=2^63-1)(hw:a0_o+a0_n<=a0.length/\a0.length<=1048576)(hr:InR a3.1.1.length a0)(hab:0<=a1/\a1<=a2/\a2<=↑a0_n):Con Tryz.prog 186 [(.s 0 (0+a0_o*1) a0_n 1),(iv a1),(iv a2),(.f 1000126 [(.a [(.p 1 0),(iv a3.2)])])] [(.live true true (flat c3 a0)),(.live false false [(.s 2 0 a3.1.1.length 10),(iv a3.1.2.1),(.s 0 0 a0.length 1),(.s 3 0 a3.1.2.2.2.length 8)]),(.live false true (flat dI a3.1.1)),(.live false true (flat cR a3.1.2.2.2))] (.t []) [] [(.live true true (flat c3 (fI a0 a0_o a0_n a1 a2 a3))),.un,.un,.un]:=by
 refine cS Tryz.func186 fun cx hcx=>?_
 have hw_0:W (a2 - 1)=a2 - 1:=(aH (n:=a2 - 1) oM oM).trans oM;refine eN [] [0,8,9] [] hcx lX (oF a0 a0_o a0_n a1 a2 a3 (flat c3 a0) (a0.length) a1 (W (a2 - 1))) (tN ((W (a2 - 1)) - a1)+1) ?_;exact aFe a0 a0_o a0_n a1 a2 a3 l0 l3_1_1 l3_1_2_2_1 l3_1_2_2_2 hw hr hab hcx (tN ((W (a2 - 1)) - a1)+1) a0 a1 (W (a2 - 1)) (by refine⟨?_,?_,?_,?_,?_,?_⟩<;>first | omega | assumption | exact hi.2.1 | exact hi.2.2.1 | (simp only [Lt];omega) | exact InR.swap hi.2.1 oM oM) oM
noncomputable def iN:=aU [1] [] (aV Tryz.f198) []
def jH (a0:ZL)(a0_o a0_n:Nat)(a1 a2 a3:Int)(a4:eG×Int)(v1c:List SV)(v1n:Nat)(v2:Int):LS:=⟨gU 82 [(0,(.s 0 (0+a0_o*1) a0_n 1)),(2,(iv a2)),(3,(iv a3)),(4,(.f 1000126 [(.a [(.p 1 0),(iv a4.2)])])),(10,(iv v2))],[(.live true true v1c),(.live false false [(.s 2 0 a4.1.1.length 10),(iv a4.1.2.1),(.s 0 0 v1n 1),(.s 3 0 a4.1.2.2.2.length 8)]),(.live false true (flat dI a4.1.1)),(.live false true (flat cR a4.1.2.2.2))]⟩
def eB (a0:ZL)(a0_o a0_n:Nat)(a1 a2 a3:Int)(a4:eG×Int):ZL×Int->(ZL×Int)⊕ZL | (v1,v2) => (bif (decide (((W ((W (2*v2))+1)):Int)≥a2))then(.inr v1)else(bif (decide (((W ((W ((W (2*v2))+1))+1)):Int) < a2))then(bif (decide (((iC ((a4.1.1,a4.1.2.1,(v1,a4.1.2.2.2)),a4.2) (v1.getD (a0_o+tN (W (a3+(W ((W (2*v2))+1))))) dF) (v1.getD (a0_o+tN (W ((W (a3+(W ((W (2*v2))+1))))+1))) dF)):Int) < 0))then(bif (!(decide (((iC ((a4.1.1,a4.1.2.1,(v1,a4.1.2.2.2)),a4.2) (v1.getD (a0_o+tN (W (a3+v2))) dF) (v1.getD (a0_o+tN (W (a3+(W ((W ((W (2*v2))+1))+1))))) dF)):Int) < 0)))then(.inr v1)else(.inl (((v1.set (a0_o+tN (W (a3+v2))) (v1.getD (a0_o+tN (W (a3+(W ((W ((W (2*v2))+1))+1))))) dF)).set (a0_o+tN (W (a3+(W ((W ((W (2*v2))+1))+1))))) (v1.getD (a0_o+tN (W (a3+v2))) dF)),(W ((W ((W (2*v2))+1))+1)))))else(bif (!(decide (((iC ((a4.1.1,a4.1.2.1,(v1,a4.1.2.2.2)),a4.2) (v1.getD (a0_o+tN (W (a3+v2))) dF) (v1.getD (a0_o+tN (W (a3+(W ((W (2*v2))+1))))) dF)):Int) < 0)))then(.inr v1)else(.inl (((v1.set (a0_o+tN (W (a3+v2))) (v1.getD (a0_o+tN (W (a3+(W ((W (2*v2))+1))))) dF)).set (a0_o+tN (W (a3+(W ((W (2*v2))+1))))) (v1.getD (a0_o+tN (W (a3+v2))) dF)),(W ((W (2*v2))+1))))))else(bif (!(decide (((iC ((a4.1.1,a4.1.2.1,(v1,a4.1.2.2.2)),a4.2) (v1.getD (a0_o+tN (W (a3+v2))) dF) (v1.getD (a0_o+tN (W (a3+(W ((W (2*v2))+1))))) dF)):Int) < 0)))then(.inr v1)else(.inl (((v1.set (a0_o+tN (W (a3+v2))) (v1.getD (a0_o+tN (W (a3+(W ((W (2*v2))+1))))) dF)).set (a0_o+tN (W (a3+(W ((W (2*v2))+1))))) (v1.getD (a0_o+tN (W (a3+v2))) dF)),(W ((W (2*v2))+1)))))))
theorem aFf (a0:ZL)(a0_o a0_n:Nat)(a1 a2 a3:Int)(a4:eG×Int)(l0:a0.length<=2^63-1)(l4_1_1:a4.1.1.length<=2^63-1)(l4_1_2_2_1:a4.1.2.2.1.length<=2^63-1)(l4_1_2_2_2:a4.1.2.2.2.length<=2^63-1)(hw:a0_o+a0_n<=a0.length/\a0.length<=1048576)(hr:InR a4.1.1.length a0)(hab:0<=a1/\a1<=1048576/\0<=a3/\0<=a2/\a3+a2<=↑a0_n) {cx:Cx} (hcx:cx.base=4):∀(n:Nat) (v1:ZL) (v2:Int),(v1.length=a0.length)/\(InR a4.1.1.length v1)/\(0<=v2)/\(v2<=1048576)->tN (a2 - v2) < n->gG Tryz.f198 cx (.t []) [] [(.live true true (flat c3 (aG (eB a0 a0_o a0_n a1 a2 a3 a4) n (v1,v2)))),.un,.un,.un] (.l iN.1 n::iN.2) (jH a0 a0_o a0_n a1 a2 a3 a4 (flat c3 v1) v1.length v2):=by
 intro n
 induction n with|zero=>intro v1 v2 hi hn;exact absurd hn (dX _)|succ n ih=>?_
 intro v1 v2 hi hn;refine aN ?_;have hw_0:W (2*v2)=2*v2:=(aH (n:=2*v2) oM oM).trans oM;have hw_1:W ((W (2*v2))+1)=2*v2+1:=(aH (n:=(W (2*v2))+1) oM oM).trans oM;have hw_2:W ((W ((W (2*v2))+1))+1)=2*v2+2:=(aH (n:=(W ((W (2*v2))+1))+1) oM oM).trans oM;have hw_3:W (a3+(W ((W (2*v2))+1)))=a3+2*v2+1:=(aH (n:=a3+(W ((W (2*v2))+1))) oM oM).trans oM;have hw_4:W ((W (a3+(W ((W (2*v2))+1))))+1)=a3+2*v2+2:=(aH (n:=(W (a3+(W ((W (2*v2))+1))))+1) oM oM).trans oM;have hw_5:W (a3+v2)=a3+v2:=(aH (n:=a3+v2) oM oM).trans oM;have hw_6:W (a3+(W ((W ((W (2*v2))+1))+1)))=a3+2*v2+2:=(aH (n:=a3+(W ((W ((W (2*v2))+1))+1))) oM oM).trans oM;rw [aZ,eB];cases h0:(decide (((W ((W (2*v2))+1)):Int)≥a2))
 case true=>
  try dsimp only [bN]
  try dsimp only
  exact rtn [.d h0] [] [0] [] hcx oK
 have q0:=iF h0;let t1:SL:=[.d h0];cases h1:(decide (((W ((W ((W (2*v2))+1))+1)):Int) < a2))
 case true=>
  have q1:=eS h1;let t2:SL:=t1++[.d h1,.i (W (a3+(W ((W (2*v2))+1)))) a0_n,cL aF v1 a0_o (W (a3+(W ((W (2*v2))+1)))) 0 1,.i (W ((W (a3+(W ((W (2*v2))+1))))+1)) a0_n,cL aF v1 a0_o (W ((W (a3+(W ((W (2*v2))+1))))+1)) 0 1,.c [1,2,0,3] (vB ((a4.1.1,a4.1.2.1,(v1,a4.1.2.2.2)),a4.2) (v1.getD (a0_o+tN (W (a3+(W ((W (2*v2))+1))))) dF) (v1.getD (a0_o+tN (W ((W (a3+(W ((W (2*v2))+1))))+1))) dF) oM (by(try simp only [Lt]);omega) oM (hi.2.1.at oM) (hi.2.1.at oM))];cases h2:(decide (((iC ((a4.1.1,a4.1.2.1,(v1,a4.1.2.2.2)),a4.2) (v1.getD (a0_o+tN (W (a3+(W ((W (2*v2))+1))))) dF) (v1.getD (a0_o+tN (W ((W (a3+(W ((W (2*v2))+1))))+1))) dF)):Int) < 0))
  case true=>
   let t3:SL:=t2++[.d h2,.i (W (a3+v2)) a0_n,cL aF v1 a0_o (W (a3+v2)) 0 1,.i (W (a3+(W ((W ((W (2*v2))+1))+1)))) a0_n,cL aF v1 a0_o (W (a3+(W ((W ((W (2*v2))+1))+1)))) 0 1,.c [1,2,0,3] (vB ((a4.1.1,a4.1.2.1,(v1,a4.1.2.2.2)),a4.2) (v1.getD (a0_o+tN (W (a3+v2))) dF) (v1.getD (a0_o+tN (W (a3+(W ((W ((W (2*v2))+1))+1))))) dF) oM (by(try simp only [Lt]);omega) oM (hi.2.1.at oM) (hi.2.1.at oM))];cases h3:(!(decide (((iC ((a4.1.1,a4.1.2.1,(v1,a4.1.2.2.2)),a4.2) (v1.getD (a0_o+tN (W (a3+v2))) dF) (v1.getD (a0_o+tN (W (a3+(W ((W ((W (2*v2))+1))+1))))) dF)):Int) < 0)))
   case true=>
    try dsimp only [bN]
    try dsimp only
    exact zE (t3++[.d h3]) [] [0] [] hcx oK
   refine bA n (t3++[.d h3,.i (W (a3+(W ((W ((W (2*v2))+1))+1)))) a0_n,cL aF v1 a0_o (W (a3+(W ((W ((W (2*v2))+1))+1)))) 0 1,.i (W (a3+v2)) a0_n,cL aF v1 a0_o (W (a3+v2)) 0 1,.i (W (a3+v2)) a0_n,.p (show((0+a0_o*1+tN (W (a3+v2))*1)+1<=(flat c3 v1).length) from(aY aF oL (o:=0) (Nb rfl))),.i (W (a3+(W ((W ((W (2*v2))+1))+1)))) a0_n,.p (show((0+a0_o*1+tN (W (a3+(W ((W ((W (2*v2))+1))+1))))*1)+1<=(splice (flat c3 v1) (0+a0_o*1+tN (W (a3+v2))*1) [(iv (v1.getD (a0_o+tN (W (a3+(W ((W ((W (2*v2))+1))+1))))) dF))]).length) from(by rw [show(splice (flat c3 v1) (0+a0_o*1+tN (W (a3+v2))*1) [(iv (v1.getD (a0_o+tN (W (a3+(W ((W ((W (2*v2))+1))+1))))) dF))])=flat c3 (v1.set (a0_o+tN (W (a3+v2))) (v1.getD (a0_o+tN (W (a3+(W ((W ((W (2*v2))+1))+1))))) dF)) from(aO aF oL (o:=0) (d:=dF) (Nb rfl) rfl)];exact aY aF oL (o:=0) (Nb rfl)))]) [0,2,3,4,10] [] hcx iN (jH a0 a0_o a0_n a1 a2 a3 a4 (splice (splice (flat c3 v1) (0+a0_o*1+tN (W (a3+v2))*1) [(iv (v1.getD (a0_o+tN (W (a3+(W ((W ((W (2*v2))+1))+1))))) dF))]) (0+a0_o*1+tN (W (a3+(W ((W ((W (2*v2))+1))+1))))*1) [(iv (v1.getD (a0_o+tN (W (a3+v2))) dF))]) (v1.length) (W ((W ((W (2*v2))+1))+1))) ?_;have z0:(splice (splice (flat c3 v1) (0+a0_o*1+tN (W (a3+v2))*1) [(iv (v1.getD (a0_o+tN (W (a3+(W ((W ((W (2*v2))+1))+1))))) dF))]) (0+a0_o*1+tN (W (a3+(W ((W ((W (2*v2))+1))+1))))*1) [(iv (v1.getD (a0_o+tN (W (a3+v2))) dF))])=flat c3 ((v1.set (a0_o+tN (W (a3+v2))) (v1.getD (a0_o+tN (W (a3+(W ((W ((W (2*v2))+1))+1))))) dF)).set (a0_o+tN (W (a3+(W ((W ((W (2*v2))+1))+1))))) (v1.getD (a0_o+tN (W (a3+v2))) dF)):=(by rw [show(splice (flat c3 v1) (0+a0_o*1+tN (W (a3+v2))*1) [(iv (v1.getD (a0_o+tN (W (a3+(W ((W ((W (2*v2))+1))+1))))) dF))])=flat c3 (v1.set (a0_o+tN (W (a3+v2))) (v1.getD (a0_o+tN (W (a3+(W ((W ((W (2*v2))+1))+1))))) dF)) from(aO aF oL (o:=0) (d:=dF) (Nb rfl) rfl)];exact aO aF oL (o:=0) (d:=dF) (Nb rfl) rfl);have z1:v1.length=((v1.set (a0_o+tN (W (a3+v2))) (v1.getD (a0_o+tN (W (a3+(W ((W ((W (2*v2))+1))+1))))) dF)).set (a0_o+tN (W (a3+(W ((W ((W (2*v2))+1))+1))))) (v1.getD (a0_o+tN (W (a3+v2))) dF)).length:=by simp
   rw [z0,z1];exact ih _ _ (by refine⟨?_,?_,?_,?_⟩<;>first | omega | assumption | exact hi.2.1 | exact hi.2.2.1 | (simp only [Lt];omega) | exact InR.swap hi.2.1 oM oM) oM
  let t3:SL:=t2++[.d h2,.i (W (a3+v2)) a0_n,cL aF v1 a0_o (W (a3+v2)) 0 1,.i (W (a3+(W ((W (2*v2))+1)))) a0_n,cL aF v1 a0_o (W (a3+(W ((W (2*v2))+1)))) 0 1,.c [1,2,0,3] (vB ((a4.1.1,a4.1.2.1,(v1,a4.1.2.2.2)),a4.2) (v1.getD (a0_o+tN (W (a3+v2))) dF) (v1.getD (a0_o+tN (W (a3+(W ((W (2*v2))+1))))) dF) oM (by(try simp only [Lt]);omega) oM (hi.2.1.at oM) (hi.2.1.at oM))];cases h3:(!(decide (((iC ((a4.1.1,a4.1.2.1,(v1,a4.1.2.2.2)),a4.2) (v1.getD (a0_o+tN (W (a3+v2))) dF) (v1.getD (a0_o+tN (W (a3+(W ((W (2*v2))+1))))) dF)):Int) < 0)))
  case true=>
   try dsimp only [bN]
   try dsimp only
   exact zE (t3++[.d h3]) [] [0] [] hcx oK
  refine bA n (t3++[.d h3,.i (W (a3+(W ((W (2*v2))+1)))) a0_n,cL aF v1 a0_o (W (a3+(W ((W (2*v2))+1)))) 0 1,.i (W (a3+v2)) a0_n,cL aF v1 a0_o (W (a3+v2)) 0 1,.i (W (a3+v2)) a0_n,.p (show((0+a0_o*1+tN (W (a3+v2))*1)+1<=(flat c3 v1).length) from(aY aF oL (o:=0) (Nb rfl))),.i (W (a3+(W ((W (2*v2))+1)))) a0_n,.p (show((0+a0_o*1+tN (W (a3+(W ((W (2*v2))+1))))*1)+1<=(splice (flat c3 v1) (0+a0_o*1+tN (W (a3+v2))*1) [(iv (v1.getD (a0_o+tN (W (a3+(W ((W (2*v2))+1))))) dF))]).length) from(by rw [show(splice (flat c3 v1) (0+a0_o*1+tN (W (a3+v2))*1) [(iv (v1.getD (a0_o+tN (W (a3+(W ((W (2*v2))+1))))) dF))])=flat c3 (v1.set (a0_o+tN (W (a3+v2))) (v1.getD (a0_o+tN (W (a3+(W ((W (2*v2))+1))))) dF)) from(aO aF oL (o:=0) (d:=dF) (Nb rfl) rfl)];exact aY aF oL (o:=0) (Nb rfl)))]) [0,2,3,4,10] [] hcx iN (jH a0 a0_o a0_n a1 a2 a3 a4 (splice (splice (flat c3 v1) (0+a0_o*1+tN (W (a3+v2))*1) [(iv (v1.getD (a0_o+tN (W (a3+(W ((W (2*v2))+1))))) dF))]) (0+a0_o*1+tN (W (a3+(W ((W (2*v2))+1))))*1) [(iv (v1.getD (a0_o+tN (W (a3+v2))) dF))]) (v1.length) (W ((W (2*v2))+1))) ?_;have z0:(splice (splice (flat c3 v1) (0+a0_o*1+tN (W (a3+v2))*1) [(iv (v1.getD (a0_o+tN (W (a3+(W ((W (2*v2))+1))))) dF))]) (0+a0_o*1+tN (W (a3+(W ((W (2*v2))+1))))*1) [(iv (v1.getD (a0_o+tN (W (a3+v2))) dF))])=flat c3 ((v1.set (a0_o+tN (W (a3+v2))) (v1.getD (a0_o+tN (W (a3+(W ((W (2*v2))+1))))) dF)).set (a0_o+tN (W (a3+(W ((W (2*v2))+1))))) (v1.getD (a0_o+tN (W (a3+v2))) dF)):=(by rw [show(splice (flat c3 v1) (0+a0_o*1+tN (W (a3+v2))*1) [(iv (v1.getD (a0_o+tN (W (a3+(W ((W (2*v2))+1))))) dF))])=flat c3 (v1.set (a0_o+tN (W (a3+v2))) (v1.getD (a0_o+tN (W (a3+(W ((W (2*v2))+1))))) dF)) from(aO aF oL (o:=0) (d:=dF) (Nb rfl) rfl)];exact aO aF oL (o:=0) (d:=dF) (Nb rfl) rfl);have z1:v1.length=((v1.set (a0_o+tN (W (a3+v2))) (v1.getD (a0_o+tN (W (a3+(W ((W (2*v2))+1))))) dF)).set (a0_o+tN (W (a3+(W ((W (2*v2))+1))))) (v1.getD (a0_o+tN (W (a3+v2))) dF)).length:=by simp
  rw [z0,z1];exact ih _ _ (by refine⟨?_,?_,?_,?_⟩<;>first | omega | assumption | exact hi.2.1 | exact hi.2.2.1 | (simp only [Lt];omega) | exact InR.swap hi.2.1 oM oM) oM
 have q1:=iF h1;let t2:SL:=t1++[.d h1,.i (W (a3+v2)) a0_n,cL aF v1 a0_o (W (a3+v2)) 0 1,.i (W (a3+(W ((W (2*v2))+1)))) a0_n,cL aF v1 a0_o (W (a3+(W ((W (2*v2))+1)))) 0 1,.c [1,2,0,3] (vB ((a4.1.1,a4.1.2.1,(v1,a4.1.2.2.2)),a4.2) (v1.getD (a0_o+tN (W (a3+v2))) dF) (v1.getD (a0_o+tN (W (a3+(W ((W (2*v2))+1))))) dF) oM (by(try simp only [Lt]);omega) oM (hi.2.1.at oM) (hi.2.1.at oM))];cases h2:(!(decide (((iC ((a4.1.1,a4.1.2.1,(v1,a4.1.2.2.2)),a4.2) (v1.getD (a0_o+tN (W (a3+v2))) dF) (v1.getD (a0_o+tN (W (a3+(W ((W (2*v2))+1))))) dF)):Int) < 0)))
 case true=>
  try dsimp only [bN]
  try dsimp only
  exact zE (t2++[.d h2]) [] [0] [] hcx oK
 refine bA n (t2++[.d h2,.i (W (a3+(W ((W (2*v2))+1)))) a0_n,cL aF v1 a0_o (W (a3+(W ((W (2*v2))+1)))) 0 1,.i (W (a3+v2)) a0_n,cL aF v1 a0_o (W (a3+v2)) 0 1,.i (W (a3+v2)) a0_n,.p (show((0+a0_o*1+tN (W (a3+v2))*1)+1<=(flat c3 v1).length) from(aY aF oL (o:=0) (Nb rfl))),.i (W (a3+(W ((W (2*v2))+1)))) a0_n,.p (show((0+a0_o*1+tN (W (a3+(W ((W (2*v2))+1))))*1)+1<=(splice (flat c3 v1) (0+a0_o*1+tN (W (a3+v2))*1) [(iv (v1.getD (a0_o+tN (W (a3+(W ((W (2*v2))+1))))) dF))]).length) from(by rw [show(splice (flat c3 v1) (0+a0_o*1+tN (W (a3+v2))*1) [(iv (v1.getD (a0_o+tN (W (a3+(W ((W (2*v2))+1))))) dF))])=flat c3 (v1.set (a0_o+tN (W (a3+v2))) (v1.getD (a0_o+tN (W (a3+(W ((W (2*v2))+1))))) dF)) from(aO aF oL (o:=0) (d:=dF) (Nb rfl) rfl)];exact aY aF oL (o:=0) (Nb rfl)))]) [0,2,3,4,10] [] hcx iN (jH a0 a0_o a0_n a1 a2 a3 a4 (splice (splice (flat c3 v1) (0+a0_o*1+tN (W (a3+v2))*1) [(iv (v1.getD (a0_o+tN (W (a3+(W ((W (2*v2))+1))))) dF))]) (0+a0_o*1+tN (W (a3+(W ((W (2*v2))+1))))*1) [(iv (v1.getD (a0_o+tN (W (a3+v2))) dF))]) (v1.length) (W ((W (2*v2))+1))) ?_;have z0:(splice (splice (flat c3 v1) (0+a0_o*1+tN (W (a3+v2))*1) [(iv (v1.getD (a0_o+tN (W (a3+(W ((W (2*v2))+1))))) dF))]) (0+a0_o*1+tN (W (a3+(W ((W (2*v2))+1))))*1) [(iv (v1.getD (a0_o+tN (W (a3+v2))) dF))])=flat c3 ((v1.set (a0_o+tN (W (a3+v2))) (v1.getD (a0_o+tN (W (a3+(W ((W (2*v2))+1))))) dF)).set (a0_o+tN (W (a3+(W ((W (2*v2))+1))))) (v1.getD (a0_o+tN (W (a3+v2))) dF)):=(by rw [show(splice (flat c3 v1) (0+a0_o*1+tN (W (a3+v2))*1) [(iv (v1.getD (a0_o+tN (W (a3+(W ((W (2*v2))+1))))) dF))])=flat c3 (v1.set (a0_o+tN (W (a3+v2))) (v1.getD (a0_o+tN (W (a3+(W ((W (2*v2))+1))))) dF)) from(aO aF oL (o:=0) (d:=dF) (Nb rfl) rfl)];exact aO aF oL (o:=0) (d:=dF) (Nb rfl) rfl);have z1:v1.length=((v1.set (a0_o+tN (W (a3+v2))) (v1.getD (a0_o+tN (W (a3+(W ((W (2*v2))+1))))) dF)).set (a0_o+tN (W (a3+(W ((W (2*v2))+1))))) (v1.getD (a0_o+tN (W (a3+v2))) dF)).length:=by simp
 rw [z0,z1];exact ih _ _ (by refine⟨?_,?_,?_,?_⟩<;>first | omega | assumption | exact hi.2.1 | exact hi.2.2.1 | (simp only [Lt];omega) | exact InR.swap hi.2.1 oM oM) oM
def dN (a0:ZL)(a0_o a0_n:Nat)(a1 a2 a3:Int)(a4:eG×Int):ZL := (aG (eB a0 a0_o a0_n a1 a2 a3 a4) (tN (a2 - a1)+1) (a0,a1))
theorem aA2 (a0:ZL)(a0_o a0_n:Nat)(a1 a2 a3:Int)(a4:eG×Int)(l0:a0.length<=2^63-1)(l4_1_1:a4.1.1.length<=2^63-1)(l4_1_2_2_1:a4.1.2.2.1.length<=2^63-1)(l4_1_2_2_2:a4.1.2.2.2.length<=2^63-1)(hw:a0_o+a0_n<=a0.length/\a0.length<=1048576)(hr:InR a4.1.1.length a0)(hab:0<=a1/\a1<=1048576/\0<=a3/\0<=a2/\a3+a2<=↑a0_n):Con Tryz.prog 198 [(.s 0 (0+a0_o*1) a0_n 1),(iv a1),(iv a2),(iv a3),(.f 1000126 [(.a [(.p 1 0),(iv a4.2)])])] [(.live true true (flat c3 a0)),(.live false false [(.s 2 0 a4.1.1.length 10),(iv a4.1.2.1),(.s 0 0 a0.length 1),(.s 3 0 a4.1.2.2.2.length 8)]),(.live false true (flat dI a4.1.1)),(.live false true (flat cR a4.1.2.2.2))] (.t []) [] [(.live true true (flat c3 (dN a0 a0_o a0_n a1 a2 a3 a4))),.un,.un,.un]:=by
 refine cS Tryz.func198 fun cx hcx=>?_
 refine eN [] [0,2,3,4,10] [] hcx iN (jH a0 a0_o a0_n a1 a2 a3 a4 (flat c3 a0) (a0.length) a1) (tN (a2 - a1)+1) ?_;exact aFf a0 a0_o a0_n a1 a2 a3 a4 l0 l4_1_1 l4_1_2_2_1 l4_1_2_2_2 hw hr hab hcx (tN (a2 - a1)+1) a0 a1 (by refine⟨?_,?_,?_,?_⟩<;>first | omega | assumption | exact hi.2.1 | exact hi.2.2.1 | (simp only [Lt];omega) | exact InR.swap hi.2.1 oM oM) oM
noncomputable def lY:Code:=(aU [1,1,1,1,1,1,1,1,1,0,0,1,0] [0] (aV Tryz.f189) []).1
noncomputable def lZ (m0:Nat):List K:=(aU [1,1,1,1,1,1,1,1,1,0,0,1,0] [m0] (aV Tryz.f189) []).2
def kR (a0:ZL)(a0_o a0_n:Nat)(a1 a2 a3:Int)(a4:eG×Int)(v13c:List SV)(v13n:Nat)(v14 v15:Int):LS:=⟨gU 178 [(0,(.s 0 (0+a0_o*1) a0_n 1)),(1,(iv a1)),(4,(.f 1000126 [(.a [(.p 1 0),(iv a4.2)])])),(12,(iv v14)),(13,(iv v15))],[(.live true true v13c),(.live false false [(.s 2 0 a4.1.1.length 10),(iv a4.1.2.1),(.s 0 0 v13n 1),(.s 3 0 a4.1.2.2.2.length 8)]),(.live false true (flat dI a4.1.1)),(.live false true (flat cR a4.1.2.2.2))]⟩
def cX (a0:ZL)(a0_o a0_n:Nat)(a1 a2 a3:Int)(a4:eG×Int):ZL×Int×Int->(ZL×Int×Int)⊕((ZL×Int×Int)⊕(Int×Bool×ZL)) | (v13,v14,v15) => (bif (decide ((v14:Int)<=v15))then(bif (!(decide (((iC ((a4.1.1,a4.1.2.1,(v13,a4.1.2.2.2)),a4.2) (v13.getD (a0_o+tN v15) dF) (v13.getD (a0_o+tN a1) dF)):Int) < 0)))then(.inl (v13,v14,(W (v15 - 1))))else(bif (decide ((v14:Int) > v15))then(.inr (.inr (v15,false,((v13.set (a0_o+tN v15) (v13.getD (a0_o+tN a1) dF)).set (a0_o+tN a1) (v13.getD (a0_o+tN v15) dF)))))else(.inr (.inl (((v13.set (a0_o+tN v14) (v13.getD (a0_o+tN v15) dF)).set (a0_o+tN v15) (v13.getD (a0_o+tN v14) dF)),(W (v14+1)),(W (v15 - 1)))))))else(bif (decide ((v14:Int) > v15))then(.inr (.inr (v15,false,((v13.set (a0_o+tN v15) (v13.getD (a0_o+tN a1) dF)).set (a0_o+tN a1) (v13.getD (a0_o+tN v15) dF)))))else(.inr (.inl (((v13.set (a0_o+tN v14) (v13.getD (a0_o+tN v15) dF)).set (a0_o+tN v15) (v13.getD (a0_o+tN v14) dF)),(W (v14+1)),(W (v15 - 1)))))))
noncomputable def pT:Code:=(aU [1,1,1,1,1,1,1,1,1,0,0,0] [0] (aV Tryz.f189) []).1
noncomputable def pU (m0:Nat):List K:=(aU [1,1,1,1,1,1,1,1,1,0,0,0] [m0] (aV Tryz.f189) []).2
def oG (a0:ZL)(a0_o a0_n:Nat)(a1 a2 a3:Int)(a4:eG×Int)(v10c:List SV)(v10n:Nat)(v11 v12:Int):LS:=⟨gU 178 [(0,(.s 0 (0+a0_o*1) a0_n 1)),(1,(iv a1)),(4,(.f 1000126 [(.a [(.p 1 0),(iv a4.2)])])),(12,(iv v11)),(13,(iv v12))],[(.live true true v10c),(.live false false [(.s 2 0 a4.1.1.length 10),(iv a4.1.2.1),(.s 0 0 v10n 1),(.s 3 0 a4.1.2.2.2.length 8)]),(.live false true (flat dI a4.1.1)),(.live false true (flat cR a4.1.2.2.2))]⟩
def eC (a0:ZL)(a0_o a0_n:Nat)(a1 a2 a3:Int)(a4:eG×Int):ZL×Int×Int->(ZL×Int×Int)⊕((ZL×Int×Int)⊕(Int×Bool×ZL)) | (v10,v11,v12) => (bif (decide ((v11:Int)<=v12))then(bif (decide (((iC ((a4.1.1,a4.1.2.1,(v10,a4.1.2.2.2)),a4.2) (v10.getD (a0_o+tN v11) dF) (v10.getD (a0_o+tN a1) dF)):Int) < 0))then(.inl (v10,(v11+1),v12))else(.inr (aG (cX a0 a0_o a0_n a1 a2 a3 a4) (tN (v12+2 - v11)+1) (v10,v11,v12))))else(.inr (aG (cX a0 a0_o a0_n a1 a2 a3 a4) (tN (v12+2 - v11)+1) (v10,v11,v12))))
noncomputable def eD:=aU [1,1,1,1,1,1,1,1,1,0] [] (aV Tryz.f189) []
def fY (a0:ZL)(a0_o a0_n:Nat)(a1 a2 a3:Int)(a4:eG×Int)(v7c:List SV)(v7n:Nat)(v8 v9:Int):LS:=⟨gU 178 [(0,(.s 0 (0+a0_o*1) a0_n 1)),(1,(iv a1)),(4,(.f 1000126 [(.a [(.p 1 0),(iv a4.2)])])),(12,(iv v8)),(13,(iv v9))],[(.live true true v7c),(.live false false [(.s 2 0 a4.1.1.length 10),(iv a4.1.2.1),(.s 0 0 v7n 1),(.s 3 0 a4.1.2.2.2.length 8)]),(.live false true (flat dI a4.1.1)),(.live false true (flat cR a4.1.2.2.2))]⟩
def bK (a0:ZL)(a0_o a0_n:Nat)(a1 a2 a3:Int)(a4:eG×Int):ZL×Int×Int->(ZL×Int×Int)⊕(Int×Bool×ZL) | (v7,v8,v9) => (aG (eC a0 a0_o a0_n a1 a2 a3 a4) (tN (v9+2 - v8)+1) (v7,v8,v9))
noncomputable def jU:=aU [1,1,1,1,0] [] (aV Tryz.f189) []
def kS (a0:ZL)(a0_o a0_n:Nat)(a1 a2 a3:Int)(a4:eG×Int)(v4c:List SV)(v4n:Nat)(v5 v6:Int):LS:=⟨gU 178 [(0,(.s 0 (0+a0_o*1) a0_n 1)),(1,(iv a1)),(4,(.f 1000126 [(.a [(.p 1 0),(iv a4.2)])])),(12,(iv v5)),(13,(iv v6))],[(.live true true v4c),(.live false false [(.s 2 0 a4.1.1.length 10),(iv a4.1.2.1),(.s 0 0 v4n 1),(.s 3 0 a4.1.2.2.2.length 8)]),(.live false true (flat dI a4.1.1)),(.live false true (flat cR a4.1.2.2.2))]⟩
def cY (a0:ZL)(a0_o a0_n:Nat)(a1 a2 a3:Int)(a4:eG×Int):ZL×Int×Int->(ZL×Int×Int)⊕(Int×Bool×ZL) | (v4,v5,v6) => (bif (decide ((v5:Int)<=v6))then(bif (!(decide (((iC ((a4.1.1,a4.1.2.1,(v4,a4.1.2.2.2)),a4.2) (v4.getD (a0_o+tN v6) dF) (v4.getD (a0_o+tN a1) dF)):Int) < 0)))then(.inl (v4,v5,(W (v6 - 1))))else(bif (decide ((v5:Int) > v6))then(.inr (v6,true,((v4.set (a0_o+tN v6) (v4.getD (a0_o+tN a1) dF)).set (a0_o+tN a1) (v4.getD (a0_o+tN v6) dF))))else(.inr (aG (bK a0 a0_o a0_n a1 a2 a3 a4) (tN ((W (v6 - 1))+2 - (W (v5+1)))+1) (((v4.set (a0_o+tN v5) (v4.getD (a0_o+tN v6) dF)).set (a0_o+tN v6) (v4.getD (a0_o+tN v5) dF)),(W (v5+1)),(W (v6 - 1)))))))else(bif (decide ((v5:Int) > v6))then(.inr (v6,true,((v4.set (a0_o+tN v6) (v4.getD (a0_o+tN a1) dF)).set (a0_o+tN a1) (v4.getD (a0_o+tN v6) dF))))else(.inr (aG (bK a0 a0_o a0_n a1 a2 a3 a4) (tN ((W (v6 - 1))+2 - (W (v5+1)))+1) (((v4.set (a0_o+tN v5) (v4.getD (a0_o+tN v6) dF)).set (a0_o+tN v6) (v4.getD (a0_o+tN v5) dF)),(W (v5+1)),(W (v6 - 1)))))))
noncomputable def mA:=aU [1,1,1,0] [] (aV Tryz.f189) []
def oH (a0:ZL)(a0_o a0_n:Nat)(a1 a2 a3:Int)(a4:eG×Int)(v1c:List SV)(v1n:Nat)(v2 v3:Int):LS:=⟨gU 178 [(0,(.s 0 (0+a0_o*1) a0_n 1)),(1,(iv a1)),(4,(.f 1000126 [(.a [(.p 1 0),(iv a4.2)])])),(12,(iv v2)),(13,(iv v3))],[(.live true true v1c),(.live false false [(.s 2 0 a4.1.1.length 10),(iv a4.1.2.1),(.s 0 0 v1n 1),(.s 3 0 a4.1.2.2.2.length 8)]),(.live false true (flat dI a4.1.1)),(.live false true (flat cR a4.1.2.2.2))]⟩
def eV (a0:ZL)(a0_o a0_n:Nat)(a1 a2 a3:Int)(a4:eG×Int):ZL×Int×Int->(ZL×Int×Int)⊕(Int×Bool×ZL) | (v1,v2,v3) => (bif (decide ((v2:Int)<=v3))then(bif (decide (((iC ((a4.1.1,a4.1.2.1,(v1,a4.1.2.2.2)),a4.2) (v1.getD (a0_o+tN v2) dF) (v1.getD (a0_o+tN a1) dF)):Int) < 0))then(.inl (v1,(v2+1),v3))else(.inr (aG (cY a0 a0_o a0_n a1 a2 a3 a4) (tN (v3+2 - v2)+1) (v1,v2,v3))))else(.inr (aG (cY a0 a0_o a0_n a1 a2 a3 a4) (tN (v3+2 - v2)+1) (v1,v2,v3))))
theorem vP (a0:ZL)(a0_o a0_n:Nat)(a1 a2 a3:Int)(a4:eG×Int)(l0:a0.length<=2^63-1)(l4_1_1:a4.1.1.length<=2^63-1)(l4_1_2_2_1:a4.1.2.2.1.length<=2^63-1)(l4_1_2_2_2:a4.1.2.2.2.length<=2^63-1)(hw:a0_o+a0_n<=a0.length/\a0.length<=1048576)(hr:InR a4.1.1.length a0)(hab:0<=a1/\a1<=a3/\a3 < a2/\a2<=↑a0_n) {cx:Cx} (hcx:cx.base=4)
 (n0:Nat) (g0:∀(v7:ZL) (v8 v9:Int),(v7.length=a0.length)/\(InR a4.1.1.length v7)/\(a1 < v8)/\(v8<=v9+2)/\(v9 < a2)/\(a1<=v9)->tN (v9+2 - v8) < n0->gG Tryz.f189 cx (.t [(iv (aG (bK a0 a0_o a0_n a1 a2 a3 a4) n0 (v7,v8,v9)).1),(.v (.bool (aG (bK a0 a0_o a0_n a1 a2 a3 a4) n0 (v7,v8,v9)).2.1))]) [] [(.live true true (flat c3 (aG (bK a0 a0_o a0_n a1 a2 a3 a4) n0 (v7,v8,v9)).2.2)),.un,.un,.un] (.l eD.1 n0::eD.2) (fY a0 a0_o a0_n a1 a2 a3 a4 (flat c3 v7) v7.length v8 v9)):∀(n:Nat) (v13:ZL) (v14 v15:Int),(v13.length=a0.length)/\(InR a4.1.1.length v13)/\(a1 < v14)/\(v14<=v15+2)/\(v15 < a2)/\(a1<=v15)/\((v13.length=a0.length))/\((InR a4.1.1.length v13))/\((a1 < v14))/\((v14<=v15+2))/\((v15 < a2))/\((a1<=v15))/\(tN (v15+2 - v14) < n0+1)->tN (v15+2 - v14) < n->gG Tryz.f189 cx (.t [(iv (bN (bK a0 a0_o a0_n a1 a2 a3 a4) n0 (aG (cX a0 a0_o a0_n a1 a2 a3 a4) n (v13,v14,v15))).1),(.v (.bool (bN (bK a0 a0_o a0_n a1 a2 a3 a4) n0 (aG (cX a0 a0_o a0_n a1 a2 a3 a4) n (v13,v14,v15))).2.1))]) [] [(.live true true (flat c3 (bN (bK a0 a0_o a0_n a1 a2 a3 a4) n0 (aG (cX a0 a0_o a0_n a1 a2 a3 a4) n (v13,v14,v15))).2.2)),.un,.un,.un] (.l lY n::lZ n0) (kR a0 a0_o a0_n a1 a2 a3 a4 (flat c3 v13) v13.length v14 v15):=by
 intro n
 induction n with|zero=>intro v13 v14 v15 hi hn;exact absurd hn (dX _)|succ n ih=>?_
 intro v13 v14 v15 hi hn;refine aN ?_;have hw_0:W (v14+1)=v14+1:=(aH (n:=v14+1) oM oM).trans oM;have hw_1:W (v15 - 1)=v15 - 1:=(aH (n:=v15 - 1) oM oM).trans oM;rw [aZ,cX];cases h0:(decide ((v14:Int)<=v15))
 case true=>
  have q0:=eS h0;let t1:SL:=[.d h0,.i v15 a0_n,cL aF v13 a0_o v15 0 1,.i a1 a0_n,cL aF v13 a0_o a1 0 1,.c [1,2,0,3] (vB ((a4.1.1,a4.1.2.1,(v13,a4.1.2.2.2)),a4.2) (v13.getD (a0_o+tN v15) dF) (v13.getD (a0_o+tN a1) dF) oM (by(try simp only [Lt]);omega) oM (hi.2.1.at oM) (hi.2.1.at oM))];cases h1:(!(decide (((iC ((a4.1.1,a4.1.2.1,(v13,a4.1.2.2.2)),a4.2) (v13.getD (a0_o+tN v15) dF) (v13.getD (a0_o+tN a1) dF)):Int) < 0)))
  case true=>refine ba (t1++[.d h1]) [] [0,1,4,12,13] [] hcx (m:=n) lY (lZ n0) (kR a0 a0_o a0_n a1 a2 a3 a4 (flat c3 v13) (v13.length) v14 (W (v15 - 1))) oK ?_;exact ih _ _ _ (by refine⟨?_,?_,?_,?_,?_,?_,?_,?_,?_,?_,?_,?_,?_⟩<;>first | omega | assumption | exact hi.2.1 | exact hi.2.2.1 | (simp only [Lt];omega) | exact InR.swap hi.2.1 oM oM | exact InR.swap hr oM oM) oM
  let t2:SL:=t1++[.d h1];cases h2:(decide ((v14:Int) > v15))
  case true=>
   have q2:=eS h2;simp only [vF]
   try dsimp only [bN]
   try dsimp only
   rw [show flat c3 ((v13.set (a0_o+tN v15) (v13.getD (a0_o+tN a1) dF)).set (a0_o+tN a1) (v13.getD (a0_o+tN v15) dF))=(splice (splice (flat c3 v13) (0+a0_o*1+tN v15*1) [(iv (v13.getD (a0_o+tN a1) dF))]) (0+a0_o*1+tN a1*1) [(iv (v13.getD (a0_o+tN v15) dF))]) from Eq.symm (by rw [show(splice (flat c3 v13) (0+a0_o*1+tN v15*1) [(iv (v13.getD (a0_o+tN a1) dF))])=flat c3 (v13.set (a0_o+tN v15) (v13.getD (a0_o+tN a1) dF)) from(aO aF oL (o:=0) (d:=dF) (Nb rfl) rfl)];exact aO aF oL (o:=0) (d:=dF) (Nb rfl) rfl)]
   try rw [show List.length (α:=Int) ((v13.set (a0_o+tN v15) (v13.getD (a0_o+tN a1) dF)).set (a0_o+tN a1) (v13.getD (a0_o+tN v15) dF))=v13.length from by first | simp;done | omega]
   exact zE (t2++[.d h2,.i a1 a0_n,cL aF v13 a0_o a1 0 1,.i v15 a0_n,cL aF v13 a0_o v15 0 1,.i v15 a0_n,.p (show((0+a0_o*1+tN v15*1)+1<=(flat c3 v13).length) from(aY aF oL (o:=0) (Nb rfl))),.i a1 a0_n,.p (show((0+a0_o*1+tN a1*1)+1<=(splice (flat c3 v13) (0+a0_o*1+tN v15*1) [(iv (v13.getD (a0_o+tN a1) dF))]).length) from(by rw [show(splice (flat c3 v13) (0+a0_o*1+tN v15*1) [(iv (v13.getD (a0_o+tN a1) dF))])=flat c3 (v13.set (a0_o+tN v15) (v13.getD (a0_o+tN a1) dF)) from(aO aF oL (o:=0) (d:=dF) (Nb rfl) rfl)];exact aY aF oL (o:=0) (Nb rfl)))]) [] [0] [] hcx oK
  refine bA n0 (t2++[.d h2,.i v15 a0_n,cL aF v13 a0_o v15 0 1,.i v14 a0_n,cL aF v13 a0_o v14 0 1,.i v14 a0_n,.p (show((0+a0_o*1+tN v14*1)+1<=(flat c3 v13).length) from(aY aF oL (o:=0) (Nb rfl))),.i v15 a0_n,.p (show((0+a0_o*1+tN v15*1)+1<=(splice (flat c3 v13) (0+a0_o*1+tN v14*1) [(iv (v13.getD (a0_o+tN v15) dF))]).length) from(by rw [show(splice (flat c3 v13) (0+a0_o*1+tN v14*1) [(iv (v13.getD (a0_o+tN v15) dF))])=flat c3 (v13.set (a0_o+tN v14) (v13.getD (a0_o+tN v15) dF)) from(aO aF oL (o:=0) (d:=dF) (Nb rfl) rfl)];exact aY aF oL (o:=0) (Nb rfl)))]) [0,1,4,12,13] [] hcx eD (fY a0 a0_o a0_n a1 a2 a3 a4 (splice (splice (flat c3 v13) (0+a0_o*1+tN v14*1) [(iv (v13.getD (a0_o+tN v15) dF))]) (0+a0_o*1+tN v15*1) [(iv (v13.getD (a0_o+tN v14) dF))]) (v13.length) (W (v14+1)) (W (v15 - 1))) ?_;have z0:(splice (splice (flat c3 v13) (0+a0_o*1+tN v14*1) [(iv (v13.getD (a0_o+tN v15) dF))]) (0+a0_o*1+tN v15*1) [(iv (v13.getD (a0_o+tN v14) dF))])=flat c3 ((v13.set (a0_o+tN v14) (v13.getD (a0_o+tN v15) dF)).set (a0_o+tN v15) (v13.getD (a0_o+tN v14) dF)):=(by rw [show(splice (flat c3 v13) (0+a0_o*1+tN v14*1) [(iv (v13.getD (a0_o+tN v15) dF))])=flat c3 (v13.set (a0_o+tN v14) (v13.getD (a0_o+tN v15) dF)) from(aO aF oL (o:=0) (d:=dF) (Nb rfl) rfl)];exact aO aF oL (o:=0) (d:=dF) (Nb rfl) rfl);have z1:v13.length=((v13.set (a0_o+tN v14) (v13.getD (a0_o+tN v15) dF)).set (a0_o+tN v15) (v13.getD (a0_o+tN v14) dF)).length:=by simp
  rw [z0,z1];exact g0 ((v13.set (a0_o+tN v14) (v13.getD (a0_o+tN v15) dF)).set (a0_o+tN v15) (v13.getD (a0_o+tN v14) dF)) (W (v14+1)) (W (v15 - 1)) (by refine⟨?_,?_,?_,?_,?_,?_⟩<;>first | omega | assumption | exact hi.2.1 | exact hi.2.2.1 | (simp only [Lt];omega) | exact InR.swap hi.2.1 oM oM | exact InR.swap hr oM oM) oM
 have q0:=iF h0;let t1:SL:=[.d h0];cases h1:(decide ((v14:Int) > v15))
 case true=>
  simp only [vF]
  try dsimp only [bN]
  try dsimp only
  rw [show flat c3 ((v13.set (a0_o+tN v15) (v13.getD (a0_o+tN a1) dF)).set (a0_o+tN a1) (v13.getD (a0_o+tN v15) dF))=(splice (splice (flat c3 v13) (0+a0_o*1+tN v15*1) [(iv (v13.getD (a0_o+tN a1) dF))]) (0+a0_o*1+tN a1*1) [(iv (v13.getD (a0_o+tN v15) dF))]) from Eq.symm (by rw [show(splice (flat c3 v13) (0+a0_o*1+tN v15*1) [(iv (v13.getD (a0_o+tN a1) dF))])=flat c3 (v13.set (a0_o+tN v15) (v13.getD (a0_o+tN a1) dF)) from(aO aF oL (o:=0) (d:=dF) (Nb rfl) rfl)];exact aO aF oL (o:=0) (d:=dF) (Nb rfl) rfl)]
  try rw [show List.length (α:=Int) ((v13.set (a0_o+tN v15) (v13.getD (a0_o+tN a1) dF)).set (a0_o+tN a1) (v13.getD (a0_o+tN v15) dF))=v13.length from by first | simp;done | omega]
  exact zE (t1++[.d h1,.i a1 a0_n,cL aF v13 a0_o a1 0 1,.i v15 a0_n,cL aF v13 a0_o v15 0 1,.i v15 a0_n,.p (show((0+a0_o*1+tN v15*1)+1<=(flat c3 v13).length) from(aY aF oL (o:=0) (Nb rfl))),.i a1 a0_n,.p (show((0+a0_o*1+tN a1*1)+1<=(splice (flat c3 v13) (0+a0_o*1+tN v15*1) [(iv (v13.getD (a0_o+tN a1) dF))]).length) from(by rw [show(splice (flat c3 v13) (0+a0_o*1+tN v15*1) [(iv (v13.getD (a0_o+tN a1) dF))])=flat c3 (v13.set (a0_o+tN v15) (v13.getD (a0_o+tN a1) dF)) from(aO aF oL (o:=0) (d:=dF) (Nb rfl) rfl)];exact aY aF oL (o:=0) (Nb rfl)))]) [] [0] [] hcx oK
 have q1:=iF h1;refine bA n0 (t1++[.d h1,.i v15 a0_n,cL aF v13 a0_o v15 0 1,.i v14 a0_n,cL aF v13 a0_o v14 0 1,.i v14 a0_n,.p (show((0+a0_o*1+tN v14*1)+1<=(flat c3 v13).length) from(aY aF oL (o:=0) (Nb rfl))),.i v15 a0_n,.p (show((0+a0_o*1+tN v15*1)+1<=(splice (flat c3 v13) (0+a0_o*1+tN v14*1) [(iv (v13.getD (a0_o+tN v15) dF))]).length) from(by rw [show(splice (flat c3 v13) (0+a0_o*1+tN v14*1) [(iv (v13.getD (a0_o+tN v15) dF))])=flat c3 (v13.set (a0_o+tN v14) (v13.getD (a0_o+tN v15) dF)) from(aO aF oL (o:=0) (d:=dF) (Nb rfl) rfl)];exact aY aF oL (o:=0) (Nb rfl)))]) [0,1,4,12,13] [] hcx eD (fY a0 a0_o a0_n a1 a2 a3 a4 (splice (splice (flat c3 v13) (0+a0_o*1+tN v14*1) [(iv (v13.getD (a0_o+tN v15) dF))]) (0+a0_o*1+tN v15*1) [(iv (v13.getD (a0_o+tN v14) dF))]) (v13.length) (W (v14+1)) (W (v15 - 1))) ?_;have z0:(splice (splice (flat c3 v13) (0+a0_o*1+tN v14*1) [(iv (v13.getD (a0_o+tN v15) dF))]) (0+a0_o*1+tN v15*1) [(iv (v13.getD (a0_o+tN v14) dF))])=flat c3 ((v13.set (a0_o+tN v14) (v13.getD (a0_o+tN v15) dF)).set (a0_o+tN v15) (v13.getD (a0_o+tN v14) dF)):=(by rw [show(splice (flat c3 v13) (0+a0_o*1+tN v14*1) [(iv (v13.getD (a0_o+tN v15) dF))])=flat c3 (v13.set (a0_o+tN v14) (v13.getD (a0_o+tN v15) dF)) from(aO aF oL (o:=0) (d:=dF) (Nb rfl) rfl)];exact aO aF oL (o:=0) (d:=dF) (Nb rfl) rfl);have z1:v13.length=((v13.set (a0_o+tN v14) (v13.getD (a0_o+tN v15) dF)).set (a0_o+tN v15) (v13.getD (a0_o+tN v14) dF)).length:=by simp
 rw [z0,z1];exact g0 ((v13.set (a0_o+tN v14) (v13.getD (a0_o+tN v15) dF)).set (a0_o+tN v15) (v13.getD (a0_o+tN v14) dF)) (W (v14+1)) (W (v15 - 1)) (by refine⟨?_,?_,?_,?_,?_,?_⟩<;>first | omega | assumption | exact hi.2.1 | exact hi.2.2.1 | (simp only [Lt];omega) | exact InR.swap hi.2.1 oM oM | exact InR.swap hr oM oM) oM
theorem aFg (a0:ZL)(a0_o a0_n:Nat)(a1 a2 a3:Int)(a4:eG×Int)(l0:a0.length<=2^63-1)(l4_1_1:a4.1.1.length<=2^63-1)(l4_1_2_2_1:a4.1.2.2.1.length<=2^63-1)(l4_1_2_2_2:a4.1.2.2.2.length<=2^63-1)(hw:a0_o+a0_n<=a0.length/\a0.length<=1048576)(hr:InR a4.1.1.length a0)(hab:0<=a1/\a1<=a3/\a3 < a2/\a2<=↑a0_n) {cx:Cx} (hcx:cx.base=4)
 (n0:Nat) (g0:∀(v7:ZL) (v8 v9:Int),(v7.length=a0.length)/\(InR a4.1.1.length v7)/\(a1 < v8)/\(v8<=v9+2)/\(v9 < a2)/\(a1<=v9)->tN (v9+2 - v8) < n0->gG Tryz.f189 cx (.t [(iv (aG (bK a0 a0_o a0_n a1 a2 a3 a4) n0 (v7,v8,v9)).1),(.v (.bool (aG (bK a0 a0_o a0_n a1 a2 a3 a4) n0 (v7,v8,v9)).2.1))]) [] [(.live true true (flat c3 (aG (bK a0 a0_o a0_n a1 a2 a3 a4) n0 (v7,v8,v9)).2.2)),.un,.un,.un] (.l eD.1 n0::eD.2) (fY a0 a0_o a0_n a1 a2 a3 a4 (flat c3 v7) v7.length v8 v9)):∀(n:Nat) (v10:ZL) (v11 v12:Int),(v10.length=a0.length)/\(InR a4.1.1.length v10)/\(a1 < v11)/\(v11<=v12+2)/\(v12 < a2)/\(a1<=v12)/\((v10.length=a0.length))/\((InR a4.1.1.length v10))/\((a1 < v11))/\((v11<=v12+2))/\((v12 < a2))/\((a1<=v12))/\(tN (v12+2 - v11) < n0+1)->tN (v12+2 - v11) < n->gG Tryz.f189 cx (.t [(iv (bN (bK a0 a0_o a0_n a1 a2 a3 a4) n0 (aG (eC a0 a0_o a0_n a1 a2 a3 a4) n (v10,v11,v12))).1),(.v (.bool (bN (bK a0 a0_o a0_n a1 a2 a3 a4) n0 (aG (eC a0 a0_o a0_n a1 a2 a3 a4) n (v10,v11,v12))).2.1))]) [] [(.live true true (flat c3 (bN (bK a0 a0_o a0_n a1 a2 a3 a4) n0 (aG (eC a0 a0_o a0_n a1 a2 a3 a4) n (v10,v11,v12))).2.2)),.un,.un,.un] (.l pT n::pU n0) (oG a0 a0_o a0_n a1 a2 a3 a4 (flat c3 v10) v10.length v11 v12):=by
 intro n
 induction n with|zero=>intro v10 v11 v12 hi hn;exact absurd hn (dX _)|succ n ih=>?_
 intro v10 v11 v12 hi hn;refine aN ?_;have hw_0:W (v11+1)=v11+1:=(aH (n:=v11+1) oM oM).trans oM;have hw_1:W (v12 - 1)=v12 - 1:=(aH (n:=v12 - 1) oM oM).trans oM;rw [aZ,eC];cases h0:(decide ((v11:Int)<=v12))
 case true=>
  have q0:=eS h0;let t1:SL:=[.d h0,.i v11 a0_n,cL aF v10 a0_o v11 0 1,.i a1 a0_n,cL aF v10 a0_o a1 0 1,.c [1,2,0,3] (vB ((a4.1.1,a4.1.2.1,(v10,a4.1.2.2.2)),a4.2) (v10.getD (a0_o+tN v11) dF) (v10.getD (a0_o+tN a1) dF) oM (by(try simp only [Lt]);omega) oM (hi.2.1.at oM) (hi.2.1.at oM))];cases h1:(decide (((iC ((a4.1.1,a4.1.2.1,(v10,a4.1.2.2.2)),a4.2) (v10.getD (a0_o+tN v11) dF) (v10.getD (a0_o+tN a1) dF)):Int) < 0))
  case true=>refine ba (t1++[.d h1]) [] [0,1,4,12,13] [] hcx (m:=n) pT (pU n0) (oG a0 a0_o a0_n a1 a2 a3 a4 (flat c3 v10) (v10.length) (W (v11+1)) v12) oK ?_;have z0:(W (v11+1))=(v11+1):=aH oM oM;rw [z0];exact ih _ _ _ (by refine⟨?_,?_,?_,?_,?_,?_,?_,?_,?_,?_,?_,?_,?_⟩<;>first | omega | assumption | exact hi.2.1 | exact hi.2.2.1 | (simp only [Lt];omega) | exact InR.swap hi.2.1 oM oM | exact InR.swap hr oM oM) oM
  refine en (t1++[.d h1]) [] [0,1,4,12,13] [] hcx lY (lZ n0) (kR a0 a0_o a0_n a1 a2 a3 a4 (flat c3 v10) (v10.length) v11 v12) (tN (v12+2 - v11)+1) oK ?_;exact vP a0 a0_o a0_n a1 a2 a3 a4 l0 l4_1_1 l4_1_2_2_1 l4_1_2_2_2 hw hr hab hcx n0 g0 (tN (v12+2 - v11)+1) v10 v11 v12 (by refine⟨?_,?_,?_,?_,?_,?_,?_,?_,?_,?_,?_,?_,?_⟩<;>first | omega | assumption | exact hi.2.1 | exact hi.2.2.1 | (simp only [Lt];omega) | exact InR.swap hi.2.1 oM oM | exact InR.swap hr oM oM) oM
 have q0:=iF h0;refine en [.d h0] [] [0,1,4,12,13] [] hcx lY (lZ n0) (kR a0 a0_o a0_n a1 a2 a3 a4 (flat c3 v10) (v10.length) v11 v12) (tN (v12+2 - v11)+1) oK ?_;exact vP a0 a0_o a0_n a1 a2 a3 a4 l0 l4_1_1 l4_1_2_2_1 l4_1_2_2_2 hw hr hab hcx n0 g0 (tN (v12+2 - v11)+1) v10 v11 v12 (by refine⟨?_,?_,?_,?_,?_,?_,?_,?_,?_,?_,?_,?_,?_⟩<;>first | omega | assumption | exact hi.2.1 | exact hi.2.2.1 | (simp only [Lt];omega) | exact InR.swap hi.2.1 oM oM | exact InR.swap hr oM oM) oM
theorem vQ (a0:ZL)(a0_o a0_n:Nat)(a1 a2 a3:Int)(a4:eG×Int)(l0:a0.length<=2^63-1)(l4_1_1:a4.1.1.length<=2^63-1)(l4_1_2_2_1:a4.1.2.2.1.length<=2^63-1)(l4_1_2_2_2:a4.1.2.2.2.length<=2^63-1)(hw:a0_o+a0_n<=a0.length/\a0.length<=1048576)(hr:InR a4.1.1.length a0)(hab:0<=a1/\a1<=a3/\a3 < a2/\a2<=↑a0_n) {cx:Cx} (hcx:cx.base=4):∀(n:Nat) (v7:ZL) (v8 v9:Int),(v7.length=a0.length)/\(InR a4.1.1.length v7)/\(a1 < v8)/\(v8<=v9+2)/\(v9 < a2)/\(a1<=v9)->tN (v9+2 - v8) < n->gG Tryz.f189 cx (.t [(iv (aG (bK a0 a0_o a0_n a1 a2 a3 a4) n (v7,v8,v9)).1),(.v (.bool (aG (bK a0 a0_o a0_n a1 a2 a3 a4) n (v7,v8,v9)).2.1))]) [] [(.live true true (flat c3 (aG (bK a0 a0_o a0_n a1 a2 a3 a4) n (v7,v8,v9)).2.2)),.un,.un,.un] (.l eD.1 n::eD.2) (fY a0 a0_o a0_n a1 a2 a3 a4 (flat c3 v7) v7.length v8 v9):=by
 intro n
 induction n with|zero=>intro v7 v8 v9 hi hn;exact absurd hn (dX _)|succ n ih=>?_
 intro v7 v8 v9 hi hn;refine aN ?_;have hw_0:W (v8+1)=v8+1:=(aH (n:=v8+1) oM oM).trans oM;have hw_1:W (v9 - 1)=v9 - 1:=(aH (n:=v9 - 1) oM oM).trans oM;refine en [] [] [0,1,4,12,13] [] hcx pT (pU n) (oG a0 a0_o a0_n a1 a2 a3 a4 (flat c3 v7) (v7.length) v8 v9) (tN (v9+2 - v8)+1) oK ?_;exact aFg a0 a0_o a0_n a1 a2 a3 a4 l0 l4_1_1 l4_1_2_2_1 l4_1_2_2_2 hw hr hab hcx n ih (tN (v9+2 - v8)+1) v7 v8 v9 (by refine⟨?_,?_,?_,?_,?_,?_,?_,?_,?_,?_,?_,?_,?_⟩<;>first | omega | assumption | exact hi.2.1 | exact hi.2.2.1 | (simp only [Lt];omega) | exact InR.swap hi.2.1 oM oM | exact InR.swap hr oM oM) oM
theorem vR (a0:ZL)(a0_o a0_n:Nat)(a1 a2 a3:Int)(a4:eG×Int)(l0:a0.length<=2^63-1)(l4_1_1:a4.1.1.length<=2^63-1)(l4_1_2_2_1:a4.1.2.2.1.length<=2^63-1)(l4_1_2_2_2:a4.1.2.2.2.length<=2^63-1)(hw:a0_o+a0_n<=a0.length/\a0.length<=1048576)(hr:InR a4.1.1.length a0)(hab:0<=a1/\a1<=a3/\a3 < a2/\a2<=↑a0_n) {cx:Cx} (hcx:cx.base=4):∀(n:Nat) (v4:ZL) (v5 v6:Int),(v4.length=a0.length)/\(InR a4.1.1.length v4)/\(a1 < v5)/\(v5<=v6+1)/\(v6 < a2)->tN (v6+2 - v5) < n->gG Tryz.f189 cx (.t [(iv (aG (cY a0 a0_o a0_n a1 a2 a3 a4) n (v4,v5,v6)).1),(.v (.bool (aG (cY a0 a0_o a0_n a1 a2 a3 a4) n (v4,v5,v6)).2.1))]) [] [(.live true true (flat c3 (aG (cY a0 a0_o a0_n a1 a2 a3 a4) n (v4,v5,v6)).2.2)),.un,.un,.un] (.l jU.1 n::jU.2) (kS a0 a0_o a0_n a1 a2 a3 a4 (flat c3 v4) v4.length v5 v6):=by
 intro n
 induction n with|zero=>intro v4 v5 v6 hi hn;exact absurd hn (dX _)|succ n ih=>?_
 intro v4 v5 v6 hi hn;refine aN ?_;have hw_0:W (v5+1)=v5+1:=(aH (n:=v5+1) oM oM).trans oM;have hw_1:W (v6 - 1)=v6 - 1:=(aH (n:=v6 - 1) oM oM).trans oM;rw [aZ,cY];cases h0:(decide ((v5:Int)<=v6))
 case true=>
  have q0:=eS h0;let t1:SL:=[.d h0,.i v6 a0_n,cL aF v4 a0_o v6 0 1,.i a1 a0_n,cL aF v4 a0_o a1 0 1,.c [1,2,0,3] (vB ((a4.1.1,a4.1.2.1,(v4,a4.1.2.2.2)),a4.2) (v4.getD (a0_o+tN v6) dF) (v4.getD (a0_o+tN a1) dF) oM (by(try simp only [Lt]);omega) oM (hi.2.1.at oM) (hi.2.1.at oM))];cases h1:(!(decide (((iC ((a4.1.1,a4.1.2.1,(v4,a4.1.2.2.2)),a4.2) (v4.getD (a0_o+tN v6) dF) (v4.getD (a0_o+tN a1) dF)):Int) < 0)))
  case true=>refine bA n (t1++[.d h1]) [0,1,4,12,13] [] hcx jU (kS a0 a0_o a0_n a1 a2 a3 a4 (flat c3 v4) (v4.length) v5 (W (v6 - 1))) ?_;exact ih _ _ _ (by refine⟨?_,?_,?_,?_,?_⟩<;>first | omega | assumption | exact hi.2.1 | exact hi.2.2.1 | (simp only [Lt];omega) | exact InR.swap hi.2.1 oM oM | exact InR.swap hr oM oM) oM
  let t2:SL:=t1++[.d h1];cases h2:(decide ((v5:Int) > v6))
  case true=>
   have q2:=eS h2;simp only [vF]
   try dsimp only [bN]
   try dsimp only
   rw [show flat c3 ((v4.set (a0_o+tN v6) (v4.getD (a0_o+tN a1) dF)).set (a0_o+tN a1) (v4.getD (a0_o+tN v6) dF))=(splice (splice (flat c3 v4) (0+a0_o*1+tN v6*1) [(iv (v4.getD (a0_o+tN a1) dF))]) (0+a0_o*1+tN a1*1) [(iv (v4.getD (a0_o+tN v6) dF))]) from Eq.symm (by rw [show(splice (flat c3 v4) (0+a0_o*1+tN v6*1) [(iv (v4.getD (a0_o+tN a1) dF))])=flat c3 (v4.set (a0_o+tN v6) (v4.getD (a0_o+tN a1) dF)) from(aO aF oL (o:=0) (d:=dF) (Nb rfl) rfl)];exact aO aF oL (o:=0) (d:=dF) (Nb rfl) rfl)]
   try rw [show List.length (α:=Int) ((v4.set (a0_o+tN v6) (v4.getD (a0_o+tN a1) dF)).set (a0_o+tN a1) (v4.getD (a0_o+tN v6) dF))=v4.length from by first | simp;done | omega]
   exact zE (t2++[.d h2,.i a1 a0_n,cL aF v4 a0_o a1 0 1,.i v6 a0_n,cL aF v4 a0_o v6 0 1,.i v6 a0_n,.p (show((0+a0_o*1+tN v6*1)+1<=(flat c3 v4).length) from(aY aF oL (o:=0) (Nb rfl))),.i a1 a0_n,.p (show((0+a0_o*1+tN a1*1)+1<=(splice (flat c3 v4) (0+a0_o*1+tN v6*1) [(iv (v4.getD (a0_o+tN a1) dF))]).length) from(by rw [show(splice (flat c3 v4) (0+a0_o*1+tN v6*1) [(iv (v4.getD (a0_o+tN a1) dF))])=flat c3 (v4.set (a0_o+tN v6) (v4.getD (a0_o+tN a1) dF)) from(aO aF oL (o:=0) (d:=dF) (Nb rfl) rfl)];exact aY aF oL (o:=0) (Nb rfl)))]) [] [0] [] hcx oK
  refine eN (t2++[.d h2,.i v6 a0_n,cL aF v4 a0_o v6 0 1,.i v5 a0_n,cL aF v4 a0_o v5 0 1,.i v5 a0_n,.p (show((0+a0_o*1+tN v5*1)+1<=(flat c3 v4).length) from(aY aF oL (o:=0) (Nb rfl))),.i v6 a0_n,.p (show((0+a0_o*1+tN v6*1)+1<=(splice (flat c3 v4) (0+a0_o*1+tN v5*1) [(iv (v4.getD (a0_o+tN v6) dF))]).length) from(by rw [show(splice (flat c3 v4) (0+a0_o*1+tN v5*1) [(iv (v4.getD (a0_o+tN v6) dF))])=flat c3 (v4.set (a0_o+tN v5) (v4.getD (a0_o+tN v6) dF)) from(aO aF oL (o:=0) (d:=dF) (Nb rfl) rfl)];exact aY aF oL (o:=0) (Nb rfl)))]) [0,1,4,12,13] [] hcx eD (fY a0 a0_o a0_n a1 a2 a3 a4 (splice (splice (flat c3 v4) (0+a0_o*1+tN v5*1) [(iv (v4.getD (a0_o+tN v6) dF))]) (0+a0_o*1+tN v6*1) [(iv (v4.getD (a0_o+tN v5) dF))]) (v4.length) (W (v5+1)) (W (v6 - 1))) (tN ((W (v6 - 1))+2 - (W (v5+1)))+1) ?_;have z0:(splice (splice (flat c3 v4) (0+a0_o*1+tN v5*1) [(iv (v4.getD (a0_o+tN v6) dF))]) (0+a0_o*1+tN v6*1) [(iv (v4.getD (a0_o+tN v5) dF))])=flat c3 ((v4.set (a0_o+tN v5) (v4.getD (a0_o+tN v6) dF)).set (a0_o+tN v6) (v4.getD (a0_o+tN v5) dF)):=(by rw [show(splice (flat c3 v4) (0+a0_o*1+tN v5*1) [(iv (v4.getD (a0_o+tN v6) dF))])=flat c3 (v4.set (a0_o+tN v5) (v4.getD (a0_o+tN v6) dF)) from(aO aF oL (o:=0) (d:=dF) (Nb rfl) rfl)];exact aO aF oL (o:=0) (d:=dF) (Nb rfl) rfl);have z1:v4.length=((v4.set (a0_o+tN v5) (v4.getD (a0_o+tN v6) dF)).set (a0_o+tN v6) (v4.getD (a0_o+tN v5) dF)).length:=by simp
  rw [z0,z1];exact vQ a0 a0_o a0_n a1 a2 a3 a4 l0 l4_1_1 l4_1_2_2_1 l4_1_2_2_2 hw hr hab hcx (tN ((W (v6 - 1))+2 - (W (v5+1)))+1) ((v4.set (a0_o+tN v5) (v4.getD (a0_o+tN v6) dF)).set (a0_o+tN v6) (v4.getD (a0_o+tN v5) dF)) (W (v5+1)) (W (v6 - 1)) (by refine⟨?_,?_,?_,?_,?_,?_⟩<;>first | omega | assumption | exact hi.2.1 | exact hi.2.2.1 | (simp only [Lt];omega) | exact InR.swap hi.2.1 oM oM | exact InR.swap hr oM oM) oM
 have q0:=iF h0;let t1:SL:=[.d h0];cases h1:(decide ((v5:Int) > v6))
 case true=>
  simp only [vF]
  try dsimp only [bN]
  try dsimp only
  rw [show flat c3 ((v4.set (a0_o+tN v6) (v4.getD (a0_o+tN a1) dF)).set (a0_o+tN a1) (v4.getD (a0_o+tN v6) dF))=(splice (splice (flat c3 v4) (0+a0_o*1+tN v6*1) [(iv (v4.getD (a0_o+tN a1) dF))]) (0+a0_o*1+tN a1*1) [(iv (v4.getD (a0_o+tN v6) dF))]) from Eq.symm (by rw [show(splice (flat c3 v4) (0+a0_o*1+tN v6*1) [(iv (v4.getD (a0_o+tN a1) dF))])=flat c3 (v4.set (a0_o+tN v6) (v4.getD (a0_o+tN a1) dF)) from(aO aF oL (o:=0) (d:=dF) (Nb rfl) rfl)];exact aO aF oL (o:=0) (d:=dF) (Nb rfl) rfl)]
  try rw [show List.length (α:=Int) ((v4.set (a0_o+tN v6) (v4.getD (a0_o+tN a1) dF)).set (a0_o+tN a1) (v4.getD (a0_o+tN v6) dF))=v4.length from by first | simp;done | omega]
  exact zE (t1++[.d h1,.i a1 a0_n,cL aF v4 a0_o a1 0 1,.i v6 a0_n,cL aF v4 a0_o v6 0 1,.i v6 a0_n,.p (show((0+a0_o*1+tN v6*1)+1<=(flat c3 v4).length) from(aY aF oL (o:=0) (Nb rfl))),.i a1 a0_n,.p (show((0+a0_o*1+tN a1*1)+1<=(splice (flat c3 v4) (0+a0_o*1+tN v6*1) [(iv (v4.getD (a0_o+tN a1) dF))]).length) from(by rw [show(splice (flat c3 v4) (0+a0_o*1+tN v6*1) [(iv (v4.getD (a0_o+tN a1) dF))])=flat c3 (v4.set (a0_o+tN v6) (v4.getD (a0_o+tN a1) dF)) from(aO aF oL (o:=0) (d:=dF) (Nb rfl) rfl)];exact aY aF oL (o:=0) (Nb rfl)))]) [] [0] [] hcx oK
 have q1:=iF h1;refine eN (t1++[.d h1,.i v6 a0_n,cL aF v4 a0_o v6 0 1,.i v5 a0_n,cL aF v4 a0_o v5 0 1,.i v5 a0_n,.p (show((0+a0_o*1+tN v5*1)+1<=(flat c3 v4).length) from(aY aF oL (o:=0) (Nb rfl))),.i v6 a0_n,.p (show((0+a0_o*1+tN v6*1)+1<=(splice (flat c3 v4) (0+a0_o*1+tN v5*1) [(iv (v4.getD (a0_o+tN v6) dF))]).length) from(by rw [show(splice (flat c3 v4) (0+a0_o*1+tN v5*1) [(iv (v4.getD (a0_o+tN v6) dF))])=flat c3 (v4.set (a0_o+tN v5) (v4.getD (a0_o+tN v6) dF)) from(aO aF oL (o:=0) (d:=dF) (Nb rfl) rfl)];exact aY aF oL (o:=0) (Nb rfl)))]) [0,1,4,12,13] [] hcx eD (fY a0 a0_o a0_n a1 a2 a3 a4 (splice (splice (flat c3 v4) (0+a0_o*1+tN v5*1) [(iv (v4.getD (a0_o+tN v6) dF))]) (0+a0_o*1+tN v6*1) [(iv (v4.getD (a0_o+tN v5) dF))]) (v4.length) (W (v5+1)) (W (v6 - 1))) (tN ((W (v6 - 1))+2 - (W (v5+1)))+1) ?_;have z0:(splice (splice (flat c3 v4) (0+a0_o*1+tN v5*1) [(iv (v4.getD (a0_o+tN v6) dF))]) (0+a0_o*1+tN v6*1) [(iv (v4.getD (a0_o+tN v5) dF))])=flat c3 ((v4.set (a0_o+tN v5) (v4.getD (a0_o+tN v6) dF)).set (a0_o+tN v6) (v4.getD (a0_o+tN v5) dF)):=(by rw [show(splice (flat c3 v4) (0+a0_o*1+tN v5*1) [(iv (v4.getD (a0_o+tN v6) dF))])=flat c3 (v4.set (a0_o+tN v5) (v4.getD (a0_o+tN v6) dF)) from(aO aF oL (o:=0) (d:=dF) (Nb rfl) rfl)];exact aO aF oL (o:=0) (d:=dF) (Nb rfl) rfl);have z1:v4.length=((v4.set (a0_o+tN v5) (v4.getD (a0_o+tN v6) dF)).set (a0_o+tN v6) (v4.getD (a0_o+tN v5) dF)).length:=by simp
 rw [z0,z1];exact vQ a0 a0_o a0_n a1 a2 a3 a4 l0 l4_1_1 l4_1_2_2_1 l4_1_2_2_2 hw hr hab hcx (tN ((W (v6 - 1))+2 - (W (v5+1)))+1) ((v4.set (a0_o+tN v5) (v4.getD (a0_o+tN v6) dF)).set (a0_o+tN v6) (v4.getD (a0_o+tN v5) dF)) (W (v5+1)) (W (v6 - 1)) (by refine⟨?_,?_,?_,?_,?_,?_⟩<;>first | omega | assumption | exact hi.2.1 | exact hi.2.2.1 | (simp only [Lt];omega) | exact InR.swap hi.2.1 oM oM | exact InR.swap hr oM oM) oM
theorem aFh (a0:ZL)(a0_o a0_n:Nat)(a1 a2 a3:Int)(a4:eG×Int)(l0:a0.length<=2^63-1)(l4_1_1:a4.1.1.length<=2^63-1)(l4_1_2_2_1:a4.1.2.2.1.length<=2^63-1)(l4_1_2_2_2:a4.1.2.2.2.length<=2^63-1)(hw:a0_o+a0_n<=a0.length/\a0.length<=1048576)(hr:InR a4.1.1.length a0)(hab:0<=a1/\a1<=a3/\a3 < a2/\a2<=↑a0_n) {cx:Cx} (hcx:cx.base=4):∀(n:Nat) (v1:ZL) (v2 v3:Int),(v1.length=a0.length)/\(InR a4.1.1.length v1)/\(a1 < v2)/\(v2<=v3+1)/\(v3 < a2)->tN (v3+2 - v2) < n->gG Tryz.f189 cx (.t [(iv (aG (eV a0 a0_o a0_n a1 a2 a3 a4) n (v1,v2,v3)).1),(.v (.bool (aG (eV a0 a0_o a0_n a1 a2 a3 a4) n (v1,v2,v3)).2.1))]) [] [(.live true true (flat c3 (aG (eV a0 a0_o a0_n a1 a2 a3 a4) n (v1,v2,v3)).2.2)),.un,.un,.un] (.l mA.1 n::mA.2) (oH a0 a0_o a0_n a1 a2 a3 a4 (flat c3 v1) v1.length v2 v3):=by
 intro n
 induction n with|zero=>intro v1 v2 v3 hi hn;exact absurd hn (dX _)|succ n ih=>?_
 intro v1 v2 v3 hi hn;refine aN ?_;have hw_0:W (v2+1)=v2+1:=(aH (n:=v2+1) oM oM).trans oM;have hw_1:W (v3 - 1)=v3 - 1:=(aH (n:=v3 - 1) oM oM).trans oM;rw [aZ,eV];cases h0:(decide ((v2:Int)<=v3))
 case true=>
  have q0:=eS h0;let t1:SL:=[.d h0,.i v2 a0_n,cL aF v1 a0_o v2 0 1,.i a1 a0_n,cL aF v1 a0_o a1 0 1,.c [1,2,0,3] (vB ((a4.1.1,a4.1.2.1,(v1,a4.1.2.2.2)),a4.2) (v1.getD (a0_o+tN v2) dF) (v1.getD (a0_o+tN a1) dF) oM (by(try simp only [Lt]);omega) oM (hi.2.1.at oM) (hi.2.1.at oM))];cases h1:(decide (((iC ((a4.1.1,a4.1.2.1,(v1,a4.1.2.2.2)),a4.2) (v1.getD (a0_o+tN v2) dF) (v1.getD (a0_o+tN a1) dF)):Int) < 0))
  case true=>refine bA n (t1++[.d h1]) [0,1,4,12,13] [] hcx mA (oH a0 a0_o a0_n a1 a2 a3 a4 (flat c3 v1) (v1.length) (W (v2+1)) v3) ?_;have z0:(W (v2+1))=(v2+1):=aH oM oM;rw [z0];exact ih _ _ _ (by refine⟨?_,?_,?_,?_,?_⟩<;>first | omega | assumption | exact hi.2.1 | exact hi.2.2.1 | (simp only [Lt];omega) | exact InR.swap hi.2.1 oM oM | exact InR.swap hr oM oM) oM
  refine eN (t1++[.d h1]) [0,1,4,12,13] [] hcx jU (kS a0 a0_o a0_n a1 a2 a3 a4 (flat c3 v1) (v1.length) v2 v3) (tN (v3+2 - v2)+1) ?_;exact vR a0 a0_o a0_n a1 a2 a3 a4 l0 l4_1_1 l4_1_2_2_1 l4_1_2_2_2 hw hr hab hcx (tN (v3+2 - v2)+1) v1 v2 v3 (by refine⟨?_,?_,?_,?_,?_⟩<;>first | omega | assumption | exact hi.2.1 | exact hi.2.2.1 | (simp only [Lt];omega) | exact InR.swap hi.2.1 oM oM | exact InR.swap hr oM oM) oM
 have q0:=iF h0;refine eN [.d h0] [0,1,4,12,13] [] hcx jU (kS a0 a0_o a0_n a1 a2 a3 a4 (flat c3 v1) (v1.length) v2 v3) (tN (v3+2 - v2)+1) ?_;exact vR a0 a0_o a0_n a1 a2 a3 a4 l0 l4_1_1 l4_1_2_2_1 l4_1_2_2_2 hw hr hab hcx (tN (v3+2 - v2)+1) v1 v2 v3 (by refine⟨?_,?_,?_,?_,?_⟩<;>first | omega | assumption | exact hi.2.1 | exact hi.2.2.1 | (simp only [Lt];omega) | exact InR.swap hi.2.1 oM oM | exact InR.swap hr oM oM) oM
def aJ (a0:ZL)(a0_o a0_n:Nat)(a1 a2 a3:Int)(a4:eG×Int):Int×Bool×ZL := (aG (eV a0 a0_o a0_n a1 a2 a3 a4) (tN ((W (a2 - 1))+2 - (W (a1+1)))+1) (((a0.set (a0_o+tN a1) (a0.getD (a0_o+tN a3) dF)).set (a0_o+tN a3) (a0.getD (a0_o+tN a1) dF)),(W (a1+1)),(W (a2 - 1))))
theorem aKe (a0:ZL)(a0_o a0_n:Nat)(a1 a2 a3:Int)(a4:eG×Int)(l0:a0.length<=2^63-1)(l4_1_1:a4.1.1.length<=2^63-1)(l4_1_2_2_1:a4.1.2.2.1.length<=2^63-1)(l4_1_2_2_2:a4.1.2.2.2.length<=2^63-1)(hw:a0_o+a0_n<=a0.length/\a0.length<=1048576)(hr:InR a4.1.1.length a0)(hab:0<=a1/\a1<=a3/\a3 < a2/\a2<=↑a0_n):Con Tryz.prog 189 [(.s 0 (0+a0_o*1) a0_n 1),(iv a1),(iv a2),(iv a3),(.f 1000126 [(.a [(.p 1 0),(iv a4.2)])])] [(.live true true (flat c3 a0)),(.live false false [(.s 2 0 a4.1.1.length 10),(iv a4.1.2.1),(.s 0 0 a0.length 1),(.s 3 0 a4.1.2.2.2.length 8)]),(.live false true (flat dI a4.1.1)),(.live false true (flat cR a4.1.2.2.2))] (.t [(iv (aJ a0 a0_o a0_n a1 a2 a3 a4).1),(.v (.bool (aJ a0 a0_o a0_n a1 a2 a3 a4).2.1))]) [] [(.live true true (flat c3 (aJ a0 a0_o a0_n a1 a2 a3 a4).2.2)),.un,.un,.un]:=by
 refine cS Tryz.func189 fun cx hcx=>?_
 have hw_0:W (a1+1)=a1+1:=(aH (n:=a1+1) oM oM).trans oM;have hw_1:W (a2 - 1)=a2 - 1:=(aH (n:=a2 - 1) oM oM).trans oM;refine eN [.i a3 a0_n,cL aF a0 a0_o a3 0 1,.i a1 a0_n,cL aF a0 a0_o a1 0 1,.i a1 a0_n,.p (show((0+a0_o*1+tN a1*1)+1<=(flat c3 a0).length) from(aY aF oL (o:=0) (Nb rfl))),.i a3 a0_n,.p (show((0+a0_o*1+tN a3*1)+1<=(splice (flat c3 a0) (0+a0_o*1+tN a1*1) [(iv (a0.getD (a0_o+tN a3) dF))]).length) from(by rw [show(splice (flat c3 a0) (0+a0_o*1+tN a1*1) [(iv (a0.getD (a0_o+tN a3) dF))])=flat c3 (a0.set (a0_o+tN a1) (a0.getD (a0_o+tN a3) dF)) from(aO aF oL (o:=0) (d:=dF) (Nb rfl) rfl)];exact aY aF oL (o:=0) (Nb rfl)))] [0,1,4,12,13] [] hcx mA (oH a0 a0_o a0_n a1 a2 a3 a4 (splice (splice (flat c3 a0) (0+a0_o*1+tN a1*1) [(iv (a0.getD (a0_o+tN a3) dF))]) (0+a0_o*1+tN a3*1) [(iv (a0.getD (a0_o+tN a1) dF))]) (a0.length) (W (a1+1)) (W (a2 - 1))) (tN ((W (a2 - 1))+2 - (W (a1+1)))+1) ?_;have z0:(splice (splice (flat c3 a0) (0+a0_o*1+tN a1*1) [(iv (a0.getD (a0_o+tN a3) dF))]) (0+a0_o*1+tN a3*1) [(iv (a0.getD (a0_o+tN a1) dF))])=flat c3 ((a0.set (a0_o+tN a1) (a0.getD (a0_o+tN a3) dF)).set (a0_o+tN a3) (a0.getD (a0_o+tN a1) dF)):=(by rw [show(splice (flat c3 a0) (0+a0_o*1+tN a1*1) [(iv (a0.getD (a0_o+tN a3) dF))])=flat c3 (a0.set (a0_o+tN a1) (a0.getD (a0_o+tN a3) dF)) from(aO aF oL (o:=0) (d:=dF) (Nb rfl) rfl)];exact aO aF oL (o:=0) (d:=dF) (Nb rfl) rfl);have z1:a0.length=((a0.set (a0_o+tN a1) (a0.getD (a0_o+tN a3) dF)).set (a0_o+tN a3) (a0.getD (a0_o+tN a1) dF)).length:=by simp
 rw [z0,z1];exact aFh a0 a0_o a0_n a1 a2 a3 a4 l0 l4_1_1 l4_1_2_2_1 l4_1_2_2_2 hw hr hab hcx (tN ((W (a2 - 1))+2 - (W (a1+1)))+1) ((a0.set (a0_o+tN a1) (a0.getD (a0_o+tN a3) dF)).set (a0_o+tN a3) (a0.getD (a0_o+tN a1) dF)) (W (a1+1)) (W (a2 - 1)) (by refine⟨?_,?_,?_,?_,?_⟩<;>first | omega | assumption | exact hi.2.1 | exact hi.2.2.1 | (simp only [Lt];omega) | exact InR.swap hi.2.1 oM oM | exact InR.swap hr oM oM) oM
noncomputable def mB:Code:=(aU [1,1,1,0,0,1,0] [0] (aV Tryz.f188) []).1
noncomputable def mC (m0:Nat):List K:=(aU [1,1,1,0,0,1,0] [m0] (aV Tryz.f188) []).2
def kT (a0:ZL)(a0_o a0_n:Nat)(a1 a2 a3:Int)(a4:eG×Int)(v7c:List SV)(v7n:Nat)(v8 v9:Int):LS:=⟨gU 90 [(0,(.s 0 (0+a0_o*1) a0_n 1)),(1,(iv a1)),(4,(.f 1000126 [(.a [(.p 1 0),(iv a4.2)])])),(11,(iv v8)),(12,(iv v9))],[(.live true true v7c),(.live false false [(.s 2 0 a4.1.1.length 10),(iv a4.1.2.1),(.s 0 0 v7n 1),(.s 3 0 a4.1.2.2.2.length 8)]),(.live false true (flat dI a4.1.1)),(.live false true (flat cR a4.1.2.2.2))]⟩
def dH (a0:ZL)(a0_o a0_n:Nat)(a1 a2 a3:Int)(a4:eG×Int):ZL×Int×Int->(ZL×Int×Int)⊕((ZL×Int×Int)⊕(Int×ZL)) | (v7,v8,v9) => (bif (decide ((v8:Int)<=v9))then(bif (decide (((iC ((a4.1.1,a4.1.2.1,(v7,a4.1.2.2.2)),a4.2) (v7.getD (a0_o+tN a1) dF) (v7.getD (a0_o+tN v9) dF)):Int) < 0))then(.inl (v7,v8,(W (v9 - 1))))else(bif (decide ((v8:Int) > v9))then(.inr (.inr (v8,v7)))else(.inr (.inl (((v7.set (a0_o+tN v8) (v7.getD (a0_o+tN v9) dF)).set (a0_o+tN v9) (v7.getD (a0_o+tN v8) dF)),(W (v8+1)),(W (v9 - 1)))))))else(bif (decide ((v8:Int) > v9))then(.inr (.inr (v8,v7)))else(.inr (.inl (((v7.set (a0_o+tN v8) (v7.getD (a0_o+tN v9) dF)).set (a0_o+tN v9) (v7.getD (a0_o+tN v8) dF)),(W (v8+1)),(W (v9 - 1)))))))
noncomputable def pV:Code:=(aU [1,1,1,0,0,0] [0] (aV Tryz.f188) []).1
noncomputable def pW (m0:Nat):List K:=(aU [1,1,1,0,0,0] [m0] (aV Tryz.f188) []).2
def oI (a0:ZL)(a0_o a0_n:Nat)(a1 a2 a3:Int)(a4:eG×Int)(v4c:List SV)(v4n:Nat)(v5 v6:Int):LS:=⟨gU 90 [(0,(.s 0 (0+a0_o*1) a0_n 1)),(1,(iv a1)),(4,(.f 1000126 [(.a [(.p 1 0),(iv a4.2)])])),(11,(iv v5)),(12,(iv v6))],[(.live true true v4c),(.live false false [(.s 2 0 a4.1.1.length 10),(iv a4.1.2.1),(.s 0 0 v4n 1),(.s 3 0 a4.1.2.2.2.length 8)]),(.live false true (flat dI a4.1.1)),(.live false true (flat cR a4.1.2.2.2))]⟩
def eW (a0:ZL)(a0_o a0_n:Nat)(a1 a2 a3:Int)(a4:eG×Int):ZL×Int×Int->(ZL×Int×Int)⊕((ZL×Int×Int)⊕(Int×ZL)) | (v4,v5,v6) => (bif (decide ((v5:Int)<=v6))then(bif (!(decide (((iC ((a4.1.1,a4.1.2.1,(v4,a4.1.2.2.2)),a4.2) (v4.getD (a0_o+tN a1) dF) (v4.getD (a0_o+tN v5) dF)):Int) < 0)))then(.inl (v4,(v5+1),v6))else(.inr (aG (dH a0 a0_o a0_n a1 a2 a3 a4) (tN (v6+2 - v5)+1) (v4,v5,v6))))else(.inr (aG (dH a0 a0_o a0_n a1 a2 a3 a4) (tN (v6+2 - v5)+1) (v4,v5,v6))))
noncomputable def eX:=aU [1,1,1,0] [] (aV Tryz.f188) []
def gX (a0:ZL)(a0_o a0_n:Nat)(a1 a2 a3:Int)(a4:eG×Int)(v1c:List SV)(v1n:Nat)(v2 v3:Int):LS:=⟨gU 90 [(0,(.s 0 (0+a0_o*1) a0_n 1)),(1,(iv a1)),(4,(.f 1000126 [(.a [(.p 1 0),(iv a4.2)])])),(11,(iv v2)),(12,(iv v3))],[(.live true true v1c),(.live false false [(.s 2 0 a4.1.1.length 10),(iv a4.1.2.1),(.s 0 0 v1n 1),(.s 3 0 a4.1.2.2.2.length 8)]),(.live false true (flat dI a4.1.1)),(.live false true (flat cR a4.1.2.2.2))]⟩
def cZ (a0:ZL)(a0_o a0_n:Nat)(a1 a2 a3:Int)(a4:eG×Int):ZL×Int×Int->(ZL×Int×Int)⊕(Int×ZL) | (v1,v2,v3) => (aG (eW a0 a0_o a0_n a1 a2 a3 a4) (tN (v3+2 - v2)+1) (v1,v2,v3))
theorem vS (a0:ZL)(a0_o a0_n:Nat)(a1 a2 a3:Int)(a4:eG×Int)(l0:a0.length<=2^63-1)(l4_1_1:a4.1.1.length<=2^63-1)(l4_1_2_2_1:a4.1.2.2.1.length<=2^63-1)(l4_1_2_2_2:a4.1.2.2.2.length<=2^63-1)(hw:a0_o+a0_n<=a0.length/\a0.length<=1048576)(hr:InR a4.1.1.length a0)(hab:0<=a1/\a1<=a3/\a3 < a2/\a2<=↑a0_n) {cx:Cx} (hcx:cx.base=4)
 (n0:Nat) (g0:∀(v1:ZL) (v2 v3:Int),(v1.length=a0.length)/\(InR a4.1.1.length v1)/\(a1 < v2)/\(v2<=v3+2)/\(v3 < a2)/\(a1<=v3)->tN (v3+2 - v2) < n0->gG Tryz.f188 cx (iv (aG (cZ a0 a0_o a0_n a1 a2 a3 a4) n0 (v1,v2,v3)).1) [] [(.live true true (flat c3 (aG (cZ a0 a0_o a0_n a1 a2 a3 a4) n0 (v1,v2,v3)).2)),.un,.un,.un] (.l eX.1 n0::eX.2) (gX a0 a0_o a0_n a1 a2 a3 a4 (flat c3 v1) v1.length v2 v3)):∀(n:Nat) (v7:ZL) (v8 v9:Int),(v7.length=a0.length)/\(InR a4.1.1.length v7)/\(a1 < v8)/\(v8<=v9+2)/\(v9 < a2)/\(a1<=v9)/\((v7.length=a0.length))/\((InR a4.1.1.length v7))/\((a1 < v8))/\((v8<=v9+2))/\((v9 < a2))/\((a1<=v9))/\(tN (v9+2 - v8) < n0+1)->tN (v9+2 - v8) < n->gG Tryz.f188 cx (iv (bN (cZ a0 a0_o a0_n a1 a2 a3 a4) n0 (aG (dH a0 a0_o a0_n a1 a2 a3 a4) n (v7,v8,v9))).1) [] [(.live true true (flat c3 (bN (cZ a0 a0_o a0_n a1 a2 a3 a4) n0 (aG (dH a0 a0_o a0_n a1 a2 a3 a4) n (v7,v8,v9))).2)),.un,.un,.un] (.l mB n::mC n0) (kT a0 a0_o a0_n a1 a2 a3 a4 (flat c3 v7) v7.length v8 v9):=by
 intro n
 induction n with|zero=>intro v7 v8 v9 hi hn;exact absurd hn (dX _)|succ n ih=>?_
 intro v7 v8 v9 hi hn;refine aN ?_;have hw_0:W (v8+1)=v8+1:=(aH (n:=v8+1) oM oM).trans oM;have hw_1:W (v9 - 1)=v9 - 1:=(aH (n:=v9 - 1) oM oM).trans oM;rw [aZ,dH];cases h0:(decide ((v8:Int)<=v9))
 case true=>
  have q0:=eS h0;let t1:SL:=[.d h0,.i a1 a0_n,cL aF v7 a0_o a1 0 1,.i v9 a0_n,cL aF v7 a0_o v9 0 1,.c [1,2,0,3] (vB ((a4.1.1,a4.1.2.1,(v7,a4.1.2.2.2)),a4.2) (v7.getD (a0_o+tN a1) dF) (v7.getD (a0_o+tN v9) dF) oM (by(try simp only [Lt]);omega) oM (hi.2.1.at oM) (hi.2.1.at oM))];cases h1:(decide (((iC ((a4.1.1,a4.1.2.1,(v7,a4.1.2.2.2)),a4.2) (v7.getD (a0_o+tN a1) dF) (v7.getD (a0_o+tN v9) dF)):Int) < 0))
  case true=>refine ba (t1++[.d h1]) [] [0,1,4,11,12] [] hcx (m:=n) mB (mC n0) (kT a0 a0_o a0_n a1 a2 a3 a4 (flat c3 v7) (v7.length) v8 (W (v9 - 1))) oK ?_;exact ih _ _ _ (by refine⟨?_,?_,?_,?_,?_,?_,?_,?_,?_,?_,?_,?_,?_⟩<;>first | omega | assumption | exact hi.2.1 | exact hi.2.2.1 | (simp only [Lt];omega) | exact InR.swap hi.2.1 oM oM | exact InR.swap hr oM oM) oM
  let t2:SL:=t1++[.d h1];cases h2:(decide ((v8:Int) > v9))
  case true=>
   try dsimp only [bN]
   try dsimp only
   exact zE (t2++[.d h2]) [] [0] [] hcx oK
  refine bA n0 (t2++[.d h2,.i v9 a0_n,cL aF v7 a0_o v9 0 1,.i v8 a0_n,cL aF v7 a0_o v8 0 1,.i v8 a0_n,.p (show((0+a0_o*1+tN v8*1)+1<=(flat c3 v7).length) from(aY aF oL (o:=0) (Nb rfl))),.i v9 a0_n,.p (show((0+a0_o*1+tN v9*1)+1<=(splice (flat c3 v7) (0+a0_o*1+tN v8*1) [(iv (v7.getD (a0_o+tN v9) dF))]).length) from(by rw [show(splice (flat c3 v7) (0+a0_o*1+tN v8*1) [(iv (v7.getD (a0_o+tN v9) dF))])=flat c3 (v7.set (a0_o+tN v8) (v7.getD (a0_o+tN v9) dF)) from(aO aF oL (o:=0) (d:=dF) (Nb rfl) rfl)];exact aY aF oL (o:=0) (Nb rfl)))]) [0,1,4,11,12] [] hcx eX (gX a0 a0_o a0_n a1 a2 a3 a4 (splice (splice (flat c3 v7) (0+a0_o*1+tN v8*1) [(iv (v7.getD (a0_o+tN v9) dF))]) (0+a0_o*1+tN v9*1) [(iv (v7.getD (a0_o+tN v8) dF))]) (v7.length) (W (v8+1)) (W (v9 - 1))) ?_;have z0:(splice (splice (flat c3 v7) (0+a0_o*1+tN v8*1) [(iv (v7.getD (a0_o+tN v9) dF))]) (0+a0_o*1+tN v9*1) [(iv (v7.getD (a0_o+tN v8) dF))])=flat c3 ((v7.set (a0_o+tN v8) (v7.getD (a0_o+tN v9) dF)).set (a0_o+tN v9) (v7.getD (a0_o+tN v8) dF)):=(by rw [show(splice (flat c3 v7) (0+a0_o*1+tN v8*1) [(iv (v7.getD (a0_o+tN v9) dF))])=flat c3 (v7.set (a0_o+tN v8) (v7.getD (a0_o+tN v9) dF)) from(aO aF oL (o:=0) (d:=dF) (Nb rfl) rfl)];exact aO aF oL (o:=0) (d:=dF) (Nb rfl) rfl);have z1:v7.length=((v7.set (a0_o+tN v8) (v7.getD (a0_o+tN v9) dF)).set (a0_o+tN v9) (v7.getD (a0_o+tN v8) dF)).length:=by simp
  rw [z0,z1];exact g0 ((v7.set (a0_o+tN v8) (v7.getD (a0_o+tN v9) dF)).set (a0_o+tN v9) (v7.getD (a0_o+tN v8) dF)) (W (v8+1)) (W (v9 - 1)) (by refine⟨?_,?_,?_,?_,?_,?_⟩<;>first | omega | assumption | exact hi.2.1 | exact hi.2.2.1 | (simp only [Lt];omega) | exact InR.swap hi.2.1 oM oM | exact InR.swap hr oM oM) oM
 have q0:=iF h0;let t1:SL:=[.d h0];cases h1:(decide ((v8:Int) > v9))
 case true=>
  try dsimp only [bN]
  try dsimp only
  exact zE (t1++[.d h1]) [] [0] [] hcx oK
 have q1:=iF h1;refine bA n0 (t1++[.d h1,.i v9 a0_n,cL aF v7 a0_o v9 0 1,.i v8 a0_n,cL aF v7 a0_o v8 0 1,.i v8 a0_n,.p (show((0+a0_o*1+tN v8*1)+1<=(flat c3 v7).length) from(aY aF oL (o:=0) (Nb rfl))),.i v9 a0_n,.p (show((0+a0_o*1+tN v9*1)+1<=(splice (flat c3 v7) (0+a0_o*1+tN v8*1) [(iv (v7.getD (a0_o+tN v9) dF))]).length) from(by rw [show(splice (flat c3 v7) (0+a0_o*1+tN v8*1) [(iv (v7.getD (a0_o+tN v9) dF))])=flat c3 (v7.set (a0_o+tN v8) (v7.getD (a0_o+tN v9) dF)) from(aO aF oL (o:=0) (d:=dF) (Nb rfl) rfl)];exact aY aF oL (o:=0) (Nb rfl)))]) [0,1,4,11,12] [] hcx eX (gX a0 a0_o a0_n a1 a2 a3 a4 (splice (splice (flat c3 v7) (0+a0_o*1+tN v8*1) [(iv (v7.getD (a0_o+tN v9) dF))]) (0+a0_o*1+tN v9*1) [(iv (v7.getD (a0_o+tN v8) dF))]) (v7.length) (W (v8+1)) (W (v9 - 1))) ?_;have z0:(splice (splice (flat c3 v7) (0+a0_o*1+tN v8*1) [(iv (v7.getD (a0_o+tN v9) dF))]) (0+a0_o*1+tN v9*1) [(iv (v7.getD (a0_o+tN v8) dF))])=flat c3 ((v7.set (a0_o+tN v8) (v7.getD (a0_o+tN v9) dF)).set (a0_o+tN v9) (v7.getD (a0_o+tN v8) dF)):=(by rw [show(splice (flat c3 v7) (0+a0_o*1+tN v8*1) [(iv (v7.getD (a0_o+tN v9) dF))])=flat c3 (v7.set (a0_o+tN v8) (v7.getD (a0_o+tN v9) dF)) from(aO aF oL (o:=0) (d:=dF) (Nb rfl) rfl)];exact aO aF oL (o:=0) (d:=dF) (Nb rfl) rfl);have z1:v7.length=((v7.set (a0_o+tN v8) (v7.getD (a0_o+tN v9) dF)).set (a0_o+tN v9) (v7.getD (a0_o+tN v8) dF)).length:=by simp
 rw [z0,z1];exact g0 ((v7.set (a0_o+tN v8) (v7.getD (a0_o+tN v9) dF)).set (a0_o+tN v9) (v7.getD (a0_o+tN v8) dF)) (W (v8+1)) (W (v9 - 1)) (by refine⟨?_,?_,?_,?_,?_,?_⟩<;>first | omega | assumption | exact hi.2.1 | exact hi.2.2.1 | (simp only [Lt];omega) | exact InR.swap hi.2.1 oM oM | exact InR.swap hr oM oM) oM
theorem aFi (a0:ZL)(a0_o a0_n:Nat)(a1 a2 a3:Int)(a4:eG×Int)(l0:a0.length<=2^63-1)(l4_1_1:a4.1.1.length<=2^63-1)(l4_1_2_2_1:a4.1.2.2.1.length<=2^63-1)(l4_1_2_2_2:a4.1.2.2.2.length<=2^63-1)(hw:a0_o+a0_n<=a0.length/\a0.length<=1048576)(hr:InR a4.1.1.length a0)(hab:0<=a1/\a1<=a3/\a3 < a2/\a2<=↑a0_n) {cx:Cx} (hcx:cx.base=4)
 (n0:Nat) (g0:∀(v1:ZL) (v2 v3:Int),(v1.length=a0.length)/\(InR a4.1.1.length v1)/\(a1 < v2)/\(v2<=v3+2)/\(v3 < a2)/\(a1<=v3)->tN (v3+2 - v2) < n0->gG Tryz.f188 cx (iv (aG (cZ a0 a0_o a0_n a1 a2 a3 a4) n0 (v1,v2,v3)).1) [] [(.live true true (flat c3 (aG (cZ a0 a0_o a0_n a1 a2 a3 a4) n0 (v1,v2,v3)).2)),.un,.un,.un] (.l eX.1 n0::eX.2) (gX a0 a0_o a0_n a1 a2 a3 a4 (flat c3 v1) v1.length v2 v3)):∀(n:Nat) (v4:ZL) (v5 v6:Int),(v4.length=a0.length)/\(InR a4.1.1.length v4)/\(a1 < v5)/\(v5<=v6+2)/\(v6 < a2)/\(a1<=v6)/\((v4.length=a0.length))/\((InR a4.1.1.length v4))/\((a1 < v5))/\((v5<=v6+2))/\((v6 < a2))/\((a1<=v6))/\(tN (v6+2 - v5) < n0+1)->tN (v6+2 - v5) < n->gG Tryz.f188 cx (iv (bN (cZ a0 a0_o a0_n a1 a2 a3 a4) n0 (aG (eW a0 a0_o a0_n a1 a2 a3 a4) n (v4,v5,v6))).1) [] [(.live true true (flat c3 (bN (cZ a0 a0_o a0_n a1 a2 a3 a4) n0 (aG (eW a0 a0_o a0_n a1 a2 a3 a4) n (v4,v5,v6))).2)),.un,.un,.un] (.l pV n::pW n0) (oI a0 a0_o a0_n a1 a2 a3 a4 (flat c3 v4) v4.length v5 v6):=by
 intro n
 induction n with|zero=>intro v4 v5 v6 hi hn;exact absurd hn (dX _)|succ n ih=>?_
 intro v4 v5 v6 hi hn;refine aN ?_;have hw_0:W (v5+1)=v5+1:=(aH (n:=v5+1) oM oM).trans oM;have hw_1:W (v6 - 1)=v6 - 1:=(aH (n:=v6 - 1) oM oM).trans oM;rw [aZ,eW];cases h0:(decide ((v5:Int)<=v6))
 case true=>
  have q0:=eS h0;let t1:SL:=[.d h0,.i a1 a0_n,cL aF v4 a0_o a1 0 1,.i v5 a0_n,cL aF v4 a0_o v5 0 1,.c [1,2,0,3] (vB ((a4.1.1,a4.1.2.1,(v4,a4.1.2.2.2)),a4.2) (v4.getD (a0_o+tN a1) dF) (v4.getD (a0_o+tN v5) dF) oM (by(try simp only [Lt]);omega) oM (hi.2.1.at oM) (hi.2.1.at oM))];cases h1:(!(decide (((iC ((a4.1.1,a4.1.2.1,(v4,a4.1.2.2.2)),a4.2) (v4.getD (a0_o+tN a1) dF) (v4.getD (a0_o+tN v5) dF)):Int) < 0)))
  case true=>refine ba (t1++[.d h1]) [] [0,1,4,11,12] [] hcx (m:=n) pV (pW n0) (oI a0 a0_o a0_n a1 a2 a3 a4 (flat c3 v4) (v4.length) (W (v5+1)) v6) oK ?_;have z0:(W (v5+1))=(v5+1):=aH oM oM;rw [z0];exact ih _ _ _ (by refine⟨?_,?_,?_,?_,?_,?_,?_,?_,?_,?_,?_,?_,?_⟩<;>first | omega | assumption | exact hi.2.1 | exact hi.2.2.1 | (simp only [Lt];omega) | exact InR.swap hi.2.1 oM oM | exact InR.swap hr oM oM) oM
  refine en (t1++[.d h1]) [] [0,1,4,11,12] [] hcx mB (mC n0) (kT a0 a0_o a0_n a1 a2 a3 a4 (flat c3 v4) (v4.length) v5 v6) (tN (v6+2 - v5)+1) oK ?_;exact vS a0 a0_o a0_n a1 a2 a3 a4 l0 l4_1_1 l4_1_2_2_1 l4_1_2_2_2 hw hr hab hcx n0 g0 (tN (v6+2 - v5)+1) v4 v5 v6 (by refine⟨?_,?_,?_,?_,?_,?_,?_,?_,?_,?_,?_,?_,?_⟩<;>first | omega | assumption | exact hi.2.1 | exact hi.2.2.1 | (simp only [Lt];omega) | exact InR.swap hi.2.1 oM oM | exact InR.swap hr oM oM) oM
 have q0:=iF h0;refine en [.d h0] [] [0,1,4,11,12] [] hcx mB (mC n0) (kT a0 a0_o a0_n a1 a2 a3 a4 (flat c3 v4) (v4.length) v5 v6) (tN (v6+2 - v5)+1) oK ?_;exact vS a0 a0_o a0_n a1 a2 a3 a4 l0 l4_1_1 l4_1_2_2_1 l4_1_2_2_2 hw hr hab hcx n0 g0 (tN (v6+2 - v5)+1) v4 v5 v6 (by refine⟨?_,?_,?_,?_,?_,?_,?_,?_,?_,?_,?_,?_,?_⟩<;>first | omega | assumption | exact hi.2.1 | exact hi.2.2.1 | (simp only [Lt];omega) | exact InR.swap hi.2.1 oM oM | exact InR.swap hr oM oM) oM
theorem aFj (a0:ZL)(a0_o a0_n:Nat)(a1 a2 a3:Int)(a4:eG×Int)(l0:a0.length<=2^63-1)(l4_1_1:a4.1.1.length<=2^63-1)(l4_1_2_2_1:a4.1.2.2.1.length<=2^63-1)(l4_1_2_2_2:a4.1.2.2.2.length<=2^63-1)(hw:a0_o+a0_n<=a0.length/\a0.length<=1048576)(hr:InR a4.1.1.length a0)(hab:0<=a1/\a1<=a3/\a3 < a2/\a2<=↑a0_n) {cx:Cx} (hcx:cx.base=4):∀(n:Nat) (v1:ZL) (v2 v3:Int),(v1.length=a0.length)/\(InR a4.1.1.length v1)/\(a1 < v2)/\(v2<=v3+2)/\(v3 < a2)/\(a1<=v3)->tN (v3+2 - v2) < n->gG Tryz.f188 cx (iv (aG (cZ a0 a0_o a0_n a1 a2 a3 a4) n (v1,v2,v3)).1) [] [(.live true true (flat c3 (aG (cZ a0 a0_o a0_n a1 a2 a3 a4) n (v1,v2,v3)).2)),.un,.un,.un] (.l eX.1 n::eX.2) (gX a0 a0_o a0_n a1 a2 a3 a4 (flat c3 v1) v1.length v2 v3):=by
 intro n
 induction n with|zero=>intro v1 v2 v3 hi hn;exact absurd hn (dX _)|succ n ih=>?_
 intro v1 v2 v3 hi hn;refine aN ?_;have hw_0:W (v2+1)=v2+1:=(aH (n:=v2+1) oM oM).trans oM;have hw_1:W (v3 - 1)=v3 - 1:=(aH (n:=v3 - 1) oM oM).trans oM;refine en [] [] [0,1,4,11,12] [] hcx pV (pW n) (oI a0 a0_o a0_n a1 a2 a3 a4 (flat c3 v1) (v1.length) v2 v3) (tN (v3+2 - v2)+1) oK ?_;exact aFi a0 a0_o a0_n a1 a2 a3 a4 l0 l4_1_1 l4_1_2_2_1 l4_1_2_2_2 hw hr hab hcx n ih (tN (v3+2 - v2)+1) v1 v2 v3 (by refine⟨?_,?_,?_,?_,?_,?_,?_,?_,?_,?_,?_,?_,?_⟩<;>first | omega | assumption | exact hi.2.1 | exact hi.2.2.1 | (simp only [Lt];omega) | exact InR.swap hi.2.1 oM oM | exact InR.swap hr oM oM) oM
def dA (a0:ZL)(a0_o a0_n:Nat)(a1 a2 a3:Int)(a4:eG×Int):Int×ZL := (aG (cZ a0 a0_o a0_n a1 a2 a3 a4) (tN ((W (a2 - 1))+2 - (W (a1+1)))+1) (((a0.set (a0_o+tN a1) (a0.getD (a0_o+tN a3) dF)).set (a0_o+tN a3) (a0.getD (a0_o+tN a1) dF)),(W (a1+1)),(W (a2 - 1))))
theorem aKf (a0:ZL)(a0_o a0_n:Nat)(a1 a2 a3:Int)(a4:eG×Int)(l0:a0.length<=2^63-1)(l4_1_1:a4.1.1.length<=2^63-1)(l4_1_2_2_1:a4.1.2.2.1.length<=2^63-1)(l4_1_2_2_2:a4.1.2.2.2.length<=2^63-1)(hw:a0_o+a0_n<=a0.length/\a0.length<=1048576)(hr:InR a4.1.1.length a0)(hab:0<=a1/\a1<=a3/\a3 < a2/\a2<=↑a0_n):Con Tryz.prog 188 [(.s 0 (0+a0_o*1) a0_n 1),(iv a1),(iv a2),(iv a3),(.f 1000126 [(.a [(.p 1 0),(iv a4.2)])])] [(.live true true (flat c3 a0)),(.live false false [(.s 2 0 a4.1.1.length 10),(iv a4.1.2.1),(.s 0 0 a0.length 1),(.s 3 0 a4.1.2.2.2.length 8)]),(.live false true (flat dI a4.1.1)),(.live false true (flat cR a4.1.2.2.2))] (iv (dA a0 a0_o a0_n a1 a2 a3 a4).1) [] [(.live true true (flat c3 (dA a0 a0_o a0_n a1 a2 a3 a4).2)),.un,.un,.un]:=by
 refine cS Tryz.func188 fun cx hcx=>?_
 have hw_0:W (a1+1)=a1+1:=(aH (n:=a1+1) oM oM).trans oM;have hw_1:W (a2 - 1)=a2 - 1:=(aH (n:=a2 - 1) oM oM).trans oM;refine eN [.i a3 a0_n,cL aF a0 a0_o a3 0 1,.i a1 a0_n,cL aF a0 a0_o a1 0 1,.i a1 a0_n,.p (show((0+a0_o*1+tN a1*1)+1<=(flat c3 a0).length) from(aY aF oL (o:=0) (Nb rfl))),.i a3 a0_n,.p (show((0+a0_o*1+tN a3*1)+1<=(splice (flat c3 a0) (0+a0_o*1+tN a1*1) [(iv (a0.getD (a0_o+tN a3) dF))]).length) from(by rw [show(splice (flat c3 a0) (0+a0_o*1+tN a1*1) [(iv (a0.getD (a0_o+tN a3) dF))])=flat c3 (a0.set (a0_o+tN a1) (a0.getD (a0_o+tN a3) dF)) from(aO aF oL (o:=0) (d:=dF) (Nb rfl) rfl)];exact aY aF oL (o:=0) (Nb rfl)))] [0,1,4,11,12] [] hcx eX (gX a0 a0_o a0_n a1 a2 a3 a4 (splice (splice (flat c3 a0) (0+a0_o*1+tN a1*1) [(iv (a0.getD (a0_o+tN a3) dF))]) (0+a0_o*1+tN a3*1) [(iv (a0.getD (a0_o+tN a1) dF))]) (a0.length) (W (a1+1)) (W (a2 - 1))) (tN ((W (a2 - 1))+2 - (W (a1+1)))+1) ?_;have z0:(splice (splice (flat c3 a0) (0+a0_o*1+tN a1*1) [(iv (a0.getD (a0_o+tN a3) dF))]) (0+a0_o*1+tN a3*1) [(iv (a0.getD (a0_o+tN a1) dF))])=flat c3 ((a0.set (a0_o+tN a1) (a0.getD (a0_o+tN a3) dF)).set (a0_o+tN a3) (a0.getD (a0_o+tN a1) dF)):=(by rw [show(splice (flat c3 a0) (0+a0_o*1+tN a1*1) [(iv (a0.getD (a0_o+tN a3) dF))])=flat c3 (a0.set (a0_o+tN a1) (a0.getD (a0_o+tN a3) dF)) from(aO aF oL (o:=0) (d:=dF) (Nb rfl) rfl)];exact aO aF oL (o:=0) (d:=dF) (Nb rfl) rfl);have z1:a0.length=((a0.set (a0_o+tN a1) (a0.getD (a0_o+tN a3) dF)).set (a0_o+tN a3) (a0.getD (a0_o+tN a1) dF)).length:=by simp
 rw [z0,z1];exact aFj a0 a0_o a0_n a1 a2 a3 a4 l0 l4_1_1 l4_1_2_2_1 l4_1_2_2_2 hw hr hab hcx (tN ((W (a2 - 1))+2 - (W (a1+1)))+1) ((a0.set (a0_o+tN a1) (a0.getD (a0_o+tN a3) dF)).set (a0_o+tN a3) (a0.getD (a0_o+tN a1) dF)) (W (a1+1)) (W (a2 - 1)) (by refine⟨?_,?_,?_,?_,?_,?_⟩<;>first | omega | assumption | exact hi.2.1 | exact hi.2.2.1 | (simp only [Lt];omega) | exact InR.swap hi.2.1 oM oM | exact InR.swap hr oM oM) oM
noncomputable def iO:Code:=(aU [1,1,0,1,0,1,0,1,1,1,1,1,1,0,1] [0] (aV Tryz.f187) []).1
noncomputable def iP (m0:Nat):List K:=(aU [1,1,0,1,0,1,0,1,1,1,1,1,1,0,1] [m0] (aV Tryz.f187) []).2
def gY (a0:ZL)(a0_o a0_n:Nat)(a1 a2:Int)(a3:eG×Int)(v11c:List SV)(v11n:Nat)(v12 v13 v14:Int):LS:=⟨gU 141 [(0,(.s 0 (0+a0_o*1) a0_n 1)),(1,(iv a1)),(2,(iv a2)),(3,(.f 1000126 [(.a [(.p 1 0),(iv a3.2)])])),(9,(iv v12)),(10,(iv v13)),(12,(iv v14))],[(.live true true v11c),(.live false false [(.s 2 0 a3.1.1.length 10),(iv a3.1.2.1),(.s 0 0 v11n 1),(.s 3 0 a3.1.2.2.2.length 8)]),(.live false true (flat dI a3.1.1)),(.live false true (flat cR a3.1.2.2.2))]⟩
def cJ (a0:ZL)(a0_o a0_n:Nat)(a1 a2:Int)(a3:eG×Int):ZL×Zt->(ZL×Zt)⊕((ZL×Int×Int)⊕(Bool×ZL)) | (v11,v12,v13,v14) => (bif (decide ((v14:Int) < a2))then(bif (!(decide (((iC ((a3.1.1,a3.1.2.1,(v11,a3.1.2.2.2)),a3.2) (v11.getD (a0_o+tN v14) dF) (v11.getD (a0_o+tN (W (v14 - 1))) dF)):Int) < 0)))then(.inr (.inl (v11,v12,(v13+1))))else(.inl (((v11.set (a0_o+tN v14) (v11.getD (a0_o+tN (W (v14 - 1))) dF)).set (a0_o+tN (W (v14 - 1))) (v11.getD (a0_o+tN v14) dF)),v12,v13,(v14+1))))else(.inr (.inl (v11,v12,(v13+1)))))
noncomputable def mE:Code:=(aU [1,1,0,1,0,1,0,1,1,1,1,0,1,0,1] [0] (aV Tryz.f187) []).1
noncomputable def mF (m0:Nat):List K:=(aU [1,1,0,1,0,1,0,1,1,1,1,0,1,0,1] [m0] (aV Tryz.f187) []).2
def kU (a0:ZL)(a0_o a0_n:Nat)(a1 a2:Int)(a3:eG×Int)(v7c:List SV)(v7n:Nat)(v8 v9 v10:Int):LS:=⟨gU 141 [(0,(.s 0 (0+a0_o*1) a0_n 1)),(1,(iv a1)),(2,(iv a2)),(3,(.f 1000126 [(.a [(.p 1 0),(iv a3.2)])])),(9,(iv v8)),(10,(iv v9)),(11,(iv v10))],[(.live true true v7c),(.live false false [(.s 2 0 a3.1.1.length 10),(iv a3.1.2.1),(.s 0 0 v7n 1),(.s 3 0 a3.1.2.2.2.length 8)]),(.live false true (flat dI a3.1.1)),(.live false true (flat cR a3.1.2.2.2))]⟩
def eE (a0:ZL)(a0_o a0_n:Nat)(a1 a2:Int)(a3:eG×Int):ZL×Zt->(ZL×Zt)⊕((ZL×Int×Int)⊕(Bool×ZL)) | (v7,v8,v9,v10) => (bif (decide ((v10:Int)≥1))then(bif (!(decide (((iC ((a3.1.1,a3.1.2.1,(v7,a3.1.2.2.2)),a3.2) (v7.getD (a0_o+tN v10) dF) (v7.getD (a0_o+tN (W (v10 - 1))) dF)):Int) < 0)))then(bif (decide (((W (a2 - v8)):Int)≥2))then(.inr (aG (cJ a0 a0_o a0_n a1 a2 a3) (tN (a2 - (v8+1))+1) (v7,v8,v9,(v8+1))))else(.inr (.inl (v7,v8,(v9+1)))))else(.inl (((v7.set (a0_o+tN v10) (v7.getD (a0_o+tN (W (v10 - 1))) dF)).set (a0_o+tN (W (v10 - 1))) (v7.getD (a0_o+tN v10) dF)),v8,v9,(W (v10 - 1)))))else(bif (decide (((W (a2 - v8)):Int)≥2))then(.inr (aG (cJ a0 a0_o a0_n a1 a2 a3) (tN (a2 - (v8+1))+1) (v7,v8,v9,(v8+1))))else(.inr (.inl (v7,v8,(v9+1))))))
noncomputable def pX:Code:=(aU [1,1,0,1,0,1,0,0] [0] (aV Tryz.f187) []).1
noncomputable def pY (m0:Nat):List K:=(aU [1,1,0,1,0,1,0,0] [m0] (aV Tryz.f187) []).2
def oJ (a0:ZL)(a0_o a0_n:Nat)(a1 a2:Int)(a3:eG×Int)(v4c:List SV)(v4n:Nat)(v5 v6:Int):LS:=⟨gU 141 [(0,(.s 0 (0+a0_o*1) a0_n 1)),(1,(iv a1)),(2,(iv a2)),(3,(.f 1000126 [(.a [(.p 1 0),(iv a3.2)])])),(9,(iv v5)),(10,(iv v6))],[(.live true true v4c),(.live false false [(.s 2 0 a3.1.1.length 10),(iv a3.1.2.1),(.s 0 0 v4n 1),(.s 3 0 a3.1.2.2.2.length 8)]),(.live false true (flat dI a3.1.1)),(.live false true (flat cR a3.1.2.2.2))]⟩
def eZ (a0:ZL)(a0_o a0_n:Nat)(a1 a2:Int)(a3:eG×Int):ZL×Int×Int->(ZL×Int×Int)⊕((ZL×Int×Int)⊕(Bool×ZL)) | (v4,v5,v6) => (bif (decide ((v5:Int) < a2))then(bif (!(decide (((iC ((a3.1.1,a3.1.2.1,(v4,a3.1.2.2.2)),a3.2) (v4.getD (a0_o+tN v5) dF) (v4.getD (a0_o+tN (W (v5 - 1))) dF)):Int) < 0)))then(.inl (v4,(v5+1),v6))else(bif ((v5:Int) == a2)then(.inr (.inr (true,v4)))else(bif (decide (((W (a2 - a1)):Int) < 50))then(.inr (.inr (false,v4)))else(bif (decide (((W (v5 - a1)):Int)≥2))then(.inr (aG (eE a0 a0_o a0_n a1 a2 a3) (tN (W (v5 - 1))+1) (((v4.set (a0_o+tN v5) (v4.getD (a0_o+tN (W (v5 - 1))) dF)).set (a0_o+tN (W (v5 - 1))) (v4.getD (a0_o+tN v5) dF)),v5,v6,(W (v5 - 1)))))else(bif (decide (((W (a2 - v5)):Int)≥2))then(.inr (aG (cJ a0 a0_o a0_n a1 a2 a3) (tN (a2 - (v5+1))+1) (((v4.set (a0_o+tN v5) (v4.getD (a0_o+tN (W (v5 - 1))) dF)).set (a0_o+tN (W (v5 - 1))) (v4.getD (a0_o+tN v5) dF)),v5,v6,(v5+1))))else(.inr (.inl (((v4.set (a0_o+tN v5) (v4.getD (a0_o+tN (W (v5 - 1))) dF)).set (a0_o+tN (W (v5 - 1))) (v4.getD (a0_o+tN v5) dF)),v5,(v6+1)))))))))else(bif ((v5:Int) == a2)then(.inr (.inr (true,v4)))else(bif (decide (((W (a2 - a1)):Int) < 50))then(.inr (.inr (false,v4)))else(bif (decide (((W (v5 - a1)):Int)≥2))then(.inr (aG (eE a0 a0_o a0_n a1 a2 a3) (tN (W (v5 - 1))+1) (((v4.set (a0_o+tN v5) (v4.getD (a0_o+tN (W (v5 - 1))) dF)).set (a0_o+tN (W (v5 - 1))) (v4.getD (a0_o+tN v5) dF)),v5,v6,(W (v5 - 1)))))else(bif (decide (((W (a2 - v5)):Int)≥2))then(.inr (aG (cJ a0 a0_o a0_n a1 a2 a3) (tN (a2 - (v5+1))+1) (((v4.set (a0_o+tN v5) (v4.getD (a0_o+tN (W (v5 - 1))) dF)).set (a0_o+tN (W (v5 - 1))) (v4.getD (a0_o+tN v5) dF)),v5,v6,(v5+1))))else(.inr (.inl (((v4.set (a0_o+tN v5) (v4.getD (a0_o+tN (W (v5 - 1))) dF)).set (a0_o+tN (W (v5 - 1))) (v4.getD (a0_o+tN v5) dF)),v5,(v6+1)))))))))
noncomputable def cE:=aU [1,1,0,1] [] (aV Tryz.f187) []
def dG (a0:ZL)(a0_o a0_n:Nat)(a1 a2:Int)(a3:eG×Int)(v1c:List SV)(v1n:Nat)(v2 v3:Int):LS:=⟨gU 141 [(0,(.s 0 (0+a0_o*1) a0_n 1)),(1,(iv a1)),(2,(iv a2)),(3,(.f 1000126 [(.a [(.p 1 0),(iv a3.2)])])),(9,(iv v2)),(10,(iv v3))],[(.live true true v1c),(.live false false [(.s 2 0 a3.1.1.length 10),(iv a3.1.2.1),(.s 0 0 v1n 1),(.s 3 0 a3.1.2.2.2.length 8)]),(.live false true (flat dI a3.1.1)),(.live false true (flat cR a3.1.2.2.2))]⟩
def bL (a0:ZL)(a0_o a0_n:Nat)(a1 a2:Int)(a3:eG×Int):ZL×Int×Int->(ZL×Int×Int)⊕(Bool×ZL) | (v1,v2,v3) => (bif (decide ((v3:Int) < 5))then(aG (eZ a0 a0_o a0_n a1 a2 a3) (tN (a2 - v2)+1) (v1,v2,v3))else(.inr (false,v1)))
theorem mH (a0:ZL)(a0_o a0_n:Nat)(a1 a2:Int)(a3:eG×Int)(l0:a0.length<=2^63-1)(l3_1_1:a3.1.1.length<=2^63-1)(l3_1_2_2_1:a3.1.2.2.1.length<=2^63-1)(l3_1_2_2_2:a3.1.2.2.2.length<=2^63-1)(hw:a0_o+a0_n<=a0.length/\a0.length<=1048576)(hr:InR a3.1.1.length a0)(hab:0<=a1/\a1 < a2/\a2<=↑a0_n) {cx:Cx} (hcx:cx.base=4)
 (n0:Nat) (g0:∀(v1:ZL) (v2 v3:Int),(v1.length=a0.length)/\(InR a3.1.1.length v1)/\(a1 < v2)/\(v2<=a2)/\(0<=v3)/\(v3<=5)->tN (5 - v3) < n0->gG Tryz.f187 cx (.v (.bool (aG (bL a0 a0_o a0_n a1 a2 a3) n0 (v1,v2,v3)).1)) [] [(.live true true (flat c3 (aG (bL a0 a0_o a0_n a1 a2 a3) n0 (v1,v2,v3)).2)),.un,.un,.un] (.l cE.1 n0::cE.2) (dG a0 a0_o a0_n a1 a2 a3 (flat c3 v1) v1.length v2 v3)):∀(n:Nat) (v11:ZL) (v12 v13 v14:Int),(v11.length=a0.length)/\(InR a3.1.1.length v11)/\(a1 < v12)/\(v12 < a2)/\(0<=v13)/\(v13 < 5)/\(a1 < v14)/\(v14<=a2)/\((v11.length=a0.length))/\((InR a3.1.1.length v11))/\((a1 < v12))/\((v12<=a2))/\((0<=v13))/\((v13<=5))/\(tN (5 - v13) < n0+1)->tN (a2 - v14) < n->gG Tryz.f187 cx (.v (.bool (bN (bL a0 a0_o a0_n a1 a2 a3) n0 (aG (cJ a0 a0_o a0_n a1 a2 a3) n (v11,v12,v13,v14))).1)) [] [(.live true true (flat c3 (bN (bL a0 a0_o a0_n a1 a2 a3) n0 (aG (cJ a0 a0_o a0_n a1 a2 a3) n (v11,v12,v13,v14))).2)),.un,.un,.un] (.l iO n::iP n0) (gY a0 a0_o a0_n a1 a2 a3 (flat c3 v11) v11.length v12 v13 v14):=by
 intro n
 induction n with|zero=>intro v11 v12 v13 v14 hi hn;exact absurd hn (dX _)|succ n ih=>?_
 intro v11 v12 v13 v14 hi hn;refine aN ?_;have hw_0:W (v12 - 1)=v12 - 1:=(aH (n:=v12 - 1) oM oM).trans oM;have hw_1:W (v12+1)=v12+1:=(aH (n:=v12+1) oM oM).trans oM;have hw_2:W (v13+1)=v13+1:=(aH (n:=v13+1) oM oM).trans oM;have hw_3:W (a2 - a1)=a2 - a1:=(aH (n:=a2 - a1) oM oM).trans oM;have hw_4:W (v12 - a1)=v12 - a1:=(aH (n:=v12 - a1) oM oM).trans oM;have hw_5:W (a2 - v12)=a2 - v12:=(aH (n:=a2 - v12) oM oM).trans oM;have hw_6:W (v14 - 1)=v14 - 1:=(aH (n:=v14 - 1) oM oM).trans oM;have hw_7:W (v14+1)=v14+1:=(aH (n:=v14+1) oM oM).trans oM;rw [aZ,cJ];cases h0:(decide ((v14:Int) < a2))
 case true=>
  have q0:=eS h0;let t1:SL:=[.d h0,.i v14 a0_n,cL aF v11 a0_o v14 0 1,.i (W (v14 - 1)) a0_n,cL aF v11 a0_o (W (v14 - 1)) 0 1,.c [1,2,0,3] (vB ((a3.1.1,a3.1.2.1,(v11,a3.1.2.2.2)),a3.2) (v11.getD (a0_o+tN v14) dF) (v11.getD (a0_o+tN (W (v14 - 1))) dF) oM (by(try simp only [Lt]);omega) oM (hi.2.1.at oM) (hi.2.1.at oM))];cases h1:(!(decide (((iC ((a3.1.1,a3.1.2.1,(v11,a3.1.2.2.2)),a3.2) (v11.getD (a0_o+tN v14) dF) (v11.getD (a0_o+tN (W (v14 - 1))) dF)):Int) < 0)))
  case true=>refine bA n0 (t1++[.d h1]) [0,1,2,3,9,10] [] hcx cE (dG a0 a0_o a0_n a1 a2 a3 (flat c3 v11) (v11.length) v12 (W (v13+1))) ?_;have z0:(W (v13+1))=(v13+1):=aH oM oM;rw [z0];exact g0 v11 v12 (v13+1) (by and_intros<;>(try simp only [Lt])<;>first | omega | assumption | exact hi.2.1 | exact hi.2.2.1 | exact InR.swap hi.2.1 oM oM | exact InR.swap hr oM oM) oM
  refine ba (t1++[.d h1,.i (W (v14 - 1)) a0_n,cL aF v11 a0_o (W (v14 - 1)) 0 1,.i v14 a0_n,cL aF v11 a0_o v14 0 1,.i v14 a0_n,.p (show((0+a0_o*1+tN v14*1)+1<=(flat c3 v11).length) from(aY aF oL (o:=0) (Nb rfl))),.i (W (v14 - 1)) a0_n,.p (show((0+a0_o*1+tN (W (v14 - 1))*1)+1<=(splice (flat c3 v11) (0+a0_o*1+tN v14*1) [(iv (v11.getD (a0_o+tN (W (v14 - 1))) dF))]).length) from(by rw [show(splice (flat c3 v11) (0+a0_o*1+tN v14*1) [(iv (v11.getD (a0_o+tN (W (v14 - 1))) dF))])=flat c3 (v11.set (a0_o+tN v14) (v11.getD (a0_o+tN (W (v14 - 1))) dF)) from(aO aF oL (o:=0) (d:=dF) (Nb rfl) rfl)];exact aY aF oL (o:=0) (Nb rfl)))]) [] [0,1,2,3,9,10,12] [] hcx (m:=n) iO (iP n0) (gY a0 a0_o a0_n a1 a2 a3 (splice (splice (flat c3 v11) (0+a0_o*1+tN v14*1) [(iv (v11.getD (a0_o+tN (W (v14 - 1))) dF))]) (0+a0_o*1+tN (W (v14 - 1))*1) [(iv (v11.getD (a0_o+tN v14) dF))]) (v11.length) v12 v13 (W (v14+1))) oK ?_;have z0:(W (v14+1))=(v14+1):=aH oM oM;have z1:(splice (splice (flat c3 v11) (0+a0_o*1+tN v14*1) [(iv (v11.getD (a0_o+tN (W (v14 - 1))) dF))]) (0+a0_o*1+tN (W (v14 - 1))*1) [(iv (v11.getD (a0_o+tN v14) dF))])=flat c3 ((v11.set (a0_o+tN v14) (v11.getD (a0_o+tN (W (v14 - 1))) dF)).set (a0_o+tN (W (v14 - 1))) (v11.getD (a0_o+tN v14) dF)):=(by rw [show(splice (flat c3 v11) (0+a0_o*1+tN v14*1) [(iv (v11.getD (a0_o+tN (W (v14 - 1))) dF))])=flat c3 (v11.set (a0_o+tN v14) (v11.getD (a0_o+tN (W (v14 - 1))) dF)) from(aO aF oL (o:=0) (d:=dF) (Nb rfl) rfl)];exact aO aF oL (o:=0) (d:=dF) (Nb rfl) rfl);have z2:v11.length=((v11.set (a0_o+tN v14) (v11.getD (a0_o+tN (W (v14 - 1))) dF)).set (a0_o+tN (W (v14 - 1))) (v11.getD (a0_o+tN v14) dF)).length:=by simp
  rw [z0,z1,z2];exact ih _ _ _ _ (by and_intros<;>(try simp only [Lt])<;>first | omega | assumption | exact hi.2.1 | exact hi.2.2.1 | exact InR.swap hi.2.1 oM oM | exact InR.swap hr oM oM) oM
 have q0:=iF h0;refine bA n0 [.d h0] [0,1,2,3,9,10] [] hcx cE (dG a0 a0_o a0_n a1 a2 a3 (flat c3 v11) (v11.length) v12 (W (v13+1))) ?_;have z0:(W (v13+1))=(v13+1):=aH oM oM;rw [z0];exact g0 v11 v12 (v13+1) (by and_intros<;>(try simp only [Lt])<;>first | omega | assumption | exact hi.2.1 | exact hi.2.2.1 | exact InR.swap hi.2.1 oM oM | exact InR.swap hr oM oM) oM
theorem vT (a0:ZL)(a0_o a0_n:Nat)(a1 a2:Int)(a3:eG×Int)(l0:a0.length<=2^63-1)(l3_1_1:a3.1.1.length<=2^63-1)(l3_1_2_2_1:a3.1.2.2.1.length<=2^63-1)(l3_1_2_2_2:a3.1.2.2.2.length<=2^63-1)(hw:a0_o+a0_n<=a0.length/\a0.length<=1048576)(hr:InR a3.1.1.length a0)(hab:0<=a1/\a1 < a2/\a2<=↑a0_n) {cx:Cx} (hcx:cx.base=4)
 (n0:Nat) (g0:∀(v1:ZL) (v2 v3:Int),(v1.length=a0.length)/\(InR a3.1.1.length v1)/\(a1 < v2)/\(v2<=a2)/\(0<=v3)/\(v3<=5)->tN (5 - v3) < n0->gG Tryz.f187 cx (.v (.bool (aG (bL a0 a0_o a0_n a1 a2 a3) n0 (v1,v2,v3)).1)) [] [(.live true true (flat c3 (aG (bL a0 a0_o a0_n a1 a2 a3) n0 (v1,v2,v3)).2)),.un,.un,.un] (.l cE.1 n0::cE.2) (dG a0 a0_o a0_n a1 a2 a3 (flat c3 v1) v1.length v2 v3)):∀(n:Nat) (v7:ZL) (v8 v9 v10:Int),(v7.length=a0.length)/\(InR a3.1.1.length v7)/\(a1 < v8)/\(v8 < a2)/\(0<=v9)/\(v9 < 5)/\(0<=v10)/\(v10 < v8)/\((v7.length=a0.length))/\((InR a3.1.1.length v7))/\((a1 < v8))/\((v8<=a2))/\((0<=v9))/\((v9<=5))/\(tN (5 - v9) < n0+1)->tN v10 < n->gG Tryz.f187 cx (.v (.bool (bN (bL a0 a0_o a0_n a1 a2 a3) n0 (aG (eE a0 a0_o a0_n a1 a2 a3) n (v7,v8,v9,v10))).1)) [] [(.live true true (flat c3 (bN (bL a0 a0_o a0_n a1 a2 a3) n0 (aG (eE a0 a0_o a0_n a1 a2 a3) n (v7,v8,v9,v10))).2)),.un,.un,.un] (.l mE n::mF n0) (kU a0 a0_o a0_n a1 a2 a3 (flat c3 v7) v7.length v8 v9 v10):=by
 intro n
 induction n with|zero=>intro v7 v8 v9 v10 hi hn;exact absurd hn (dX _)|succ n ih=>?_
 intro v7 v8 v9 v10 hi hn;refine aN ?_;have hw_0:W (v8 - 1)=v8 - 1:=(aH (n:=v8 - 1) oM oM).trans oM;have hw_1:W (v8+1)=v8+1:=(aH (n:=v8+1) oM oM).trans oM;have hw_2:W (v9+1)=v9+1:=(aH (n:=v9+1) oM oM).trans oM;have hw_3:W (a2 - a1)=a2 - a1:=(aH (n:=a2 - a1) oM oM).trans oM;have hw_4:W (v8 - a1)=v8 - a1:=(aH (n:=v8 - a1) oM oM).trans oM;have hw_5:W (a2 - v8)=a2 - v8:=(aH (n:=a2 - v8) oM oM).trans oM;have hw_6:W (v10 - 1)=v10 - 1:=(aH (n:=v10 - 1) oM oM).trans oM;rw [aZ,eE];cases h0:(decide ((v10:Int)≥1))
 case true=>
  have q0:=eS h0;let t1:SL:=[.d h0,.i v10 a0_n,cL aF v7 a0_o v10 0 1,.i (W (v10 - 1)) a0_n,cL aF v7 a0_o (W (v10 - 1)) 0 1,.c [1,2,0,3] (vB ((a3.1.1,a3.1.2.1,(v7,a3.1.2.2.2)),a3.2) (v7.getD (a0_o+tN v10) dF) (v7.getD (a0_o+tN (W (v10 - 1))) dF) oM (by(try simp only [Lt]);omega) oM (hi.2.1.at oM) (hi.2.1.at oM))];cases h1:(!(decide (((iC ((a3.1.1,a3.1.2.1,(v7,a3.1.2.2.2)),a3.2) (v7.getD (a0_o+tN v10) dF) (v7.getD (a0_o+tN (W (v10 - 1))) dF)):Int) < 0)))
  case true=>
   let t2:SL:=t1++[.d h1];cases h2:(decide (((W (a2 - v8)):Int)≥2))
   case true=>have q2:=eS h2;refine en (t2++[.d h2]) [] [0,1,2,3,9,10,12] [] hcx iO (iP n0) (gY a0 a0_o a0_n a1 a2 a3 (flat c3 v7) (v7.length) v8 v9 (W (v8+1))) (tN (a2 - (v8+1))+1) oK ?_;have z0:(W (v8+1))=(v8+1):=aH oM oM;rw [z0];exact mH a0 a0_o a0_n a1 a2 a3 l0 l3_1_1 l3_1_2_2_1 l3_1_2_2_2 hw hr hab hcx n0 g0 (tN (a2 - (v8+1))+1) v7 v8 v9 (v8+1) (by and_intros<;>(try simp only [Lt])<;>first | omega | assumption | exact hi.2.1 | exact hi.2.2.1 | exact InR.swap hi.2.1 oM oM | exact InR.swap hr oM oM) oM
   have q2:=iF h2;refine bA n0 (t2++[.d h2]) [0,1,2,3,9,10] [] hcx cE (dG a0 a0_o a0_n a1 a2 a3 (flat c3 v7) (v7.length) v8 (W (v9+1))) ?_;have z0:(W (v9+1))=(v9+1):=aH oM oM;rw [z0];exact g0 v7 v8 (v9+1) (by and_intros<;>(try simp only [Lt])<;>first | omega | assumption | exact hi.2.1 | exact hi.2.2.1 | exact InR.swap hi.2.1 oM oM | exact InR.swap hr oM oM) oM
  refine ba (t1++[.d h1,.i (W (v10 - 1)) a0_n,cL aF v7 a0_o (W (v10 - 1)) 0 1,.i v10 a0_n,cL aF v7 a0_o v10 0 1,.i v10 a0_n,.p (show((0+a0_o*1+tN v10*1)+1<=(flat c3 v7).length) from(aY aF oL (o:=0) (Nb rfl))),.i (W (v10 - 1)) a0_n,.p (show((0+a0_o*1+tN (W (v10 - 1))*1)+1<=(splice (flat c3 v7) (0+a0_o*1+tN v10*1) [(iv (v7.getD (a0_o+tN (W (v10 - 1))) dF))]).length) from(by rw [show(splice (flat c3 v7) (0+a0_o*1+tN v10*1) [(iv (v7.getD (a0_o+tN (W (v10 - 1))) dF))])=flat c3 (v7.set (a0_o+tN v10) (v7.getD (a0_o+tN (W (v10 - 1))) dF)) from(aO aF oL (o:=0) (d:=dF) (Nb rfl) rfl)];exact aY aF oL (o:=0) (Nb rfl)))]) [] [0,1,2,3,9,10,11] [] hcx (m:=n) mE (mF n0) (kU a0 a0_o a0_n a1 a2 a3 (splice (splice (flat c3 v7) (0+a0_o*1+tN v10*1) [(iv (v7.getD (a0_o+tN (W (v10 - 1))) dF))]) (0+a0_o*1+tN (W (v10 - 1))*1) [(iv (v7.getD (a0_o+tN v10) dF))]) (v7.length) v8 v9 (W (v10 - 1))) oK ?_;have z0:(splice (splice (flat c3 v7) (0+a0_o*1+tN v10*1) [(iv (v7.getD (a0_o+tN (W (v10 - 1))) dF))]) (0+a0_o*1+tN (W (v10 - 1))*1) [(iv (v7.getD (a0_o+tN v10) dF))])=flat c3 ((v7.set (a0_o+tN v10) (v7.getD (a0_o+tN (W (v10 - 1))) dF)).set (a0_o+tN (W (v10 - 1))) (v7.getD (a0_o+tN v10) dF)):=(by rw [show(splice (flat c3 v7) (0+a0_o*1+tN v10*1) [(iv (v7.getD (a0_o+tN (W (v10 - 1))) dF))])=flat c3 (v7.set (a0_o+tN v10) (v7.getD (a0_o+tN (W (v10 - 1))) dF)) from(aO aF oL (o:=0) (d:=dF) (Nb rfl) rfl)];exact aO aF oL (o:=0) (d:=dF) (Nb rfl) rfl);have z1:v7.length=((v7.set (a0_o+tN v10) (v7.getD (a0_o+tN (W (v10 - 1))) dF)).set (a0_o+tN (W (v10 - 1))) (v7.getD (a0_o+tN v10) dF)).length:=by simp
  rw [z0,z1];exact ih _ _ _ _ (by and_intros<;>(try simp only [Lt])<;>first | omega | assumption | exact hi.2.1 | exact hi.2.2.1 | exact InR.swap hi.2.1 oM oM | exact InR.swap hr oM oM) oM
 have q0:=iF h0;let t1:SL:=[.d h0];cases h1:(decide (((W (a2 - v8)):Int)≥2))
 case true=>have q1:=eS h1;refine en (t1++[.d h1]) [] [0,1,2,3,9,10,12] [] hcx iO (iP n0) (gY a0 a0_o a0_n a1 a2 a3 (flat c3 v7) (v7.length) v8 v9 (W (v8+1))) (tN (a2 - (v8+1))+1) oK ?_;have z0:(W (v8+1))=(v8+1):=aH oM oM;rw [z0];exact mH a0 a0_o a0_n a1 a2 a3 l0 l3_1_1 l3_1_2_2_1 l3_1_2_2_2 hw hr hab hcx n0 g0 (tN (a2 - (v8+1))+1) v7 v8 v9 (v8+1) (by and_intros<;>(try simp only [Lt])<;>first | omega | assumption | exact hi.2.1 | exact hi.2.2.1 | exact InR.swap hi.2.1 oM oM | exact InR.swap hr oM oM) oM
 have q1:=iF h1;refine bA n0 (t1++[.d h1]) [0,1,2,3,9,10] [] hcx cE (dG a0 a0_o a0_n a1 a2 a3 (flat c3 v7) (v7.length) v8 (W (v9+1))) ?_;have z0:(W (v9+1))=(v9+1):=aH oM oM;rw [z0];exact g0 v7 v8 (v9+1) (by and_intros<;>(try simp only [Lt])<;>first | omega | assumption | exact hi.2.1 | exact hi.2.2.1 | exact InR.swap hi.2.1 oM oM | exact InR.swap hr oM oM) oM
theorem aFk (a0:ZL)(a0_o a0_n:Nat)(a1 a2:Int)(a3:eG×Int)(l0:a0.length<=2^63-1)(l3_1_1:a3.1.1.length<=2^63-1)(l3_1_2_2_1:a3.1.2.2.1.length<=2^63-1)(l3_1_2_2_2:a3.1.2.2.2.length<=2^63-1)(hw:a0_o+a0_n<=a0.length/\a0.length<=1048576)(hr:InR a3.1.1.length a0)(hab:0<=a1/\a1 < a2/\a2<=↑a0_n) {cx:Cx} (hcx:cx.base=4)
 (n0:Nat) (g0:∀(v1:ZL) (v2 v3:Int),(v1.length=a0.length)/\(InR a3.1.1.length v1)/\(a1 < v2)/\(v2<=a2)/\(0<=v3)/\(v3<=5)->tN (5 - v3) < n0->gG Tryz.f187 cx (.v (.bool (aG (bL a0 a0_o a0_n a1 a2 a3) n0 (v1,v2,v3)).1)) [] [(.live true true (flat c3 (aG (bL a0 a0_o a0_n a1 a2 a3) n0 (v1,v2,v3)).2)),.un,.un,.un] (.l cE.1 n0::cE.2) (dG a0 a0_o a0_n a1 a2 a3 (flat c3 v1) v1.length v2 v3)):∀(n:Nat) (v4:ZL) (v5 v6:Int),(v4.length=a0.length)/\(InR a3.1.1.length v4)/\(a1 < v5)/\(v5<=a2)/\(0<=v6)/\(v6 < 5)/\((v4.length=a0.length))/\((InR a3.1.1.length v4))/\((a1 < v5))/\((v5<=a2))/\((0<=v6))/\((v6<=5))/\(tN (5 - v6) < n0+1)->tN (a2 - v5) < n->gG Tryz.f187 cx (.v (.bool (bN (bL a0 a0_o a0_n a1 a2 a3) n0 (aG (eZ a0 a0_o a0_n a1 a2 a3) n (v4,v5,v6))).1)) [] [(.live true true (flat c3 (bN (bL a0 a0_o a0_n a1 a2 a3) n0 (aG (eZ a0 a0_o a0_n a1 a2 a3) n (v4,v5,v6))).2)),.un,.un,.un] (.l pX n::pY n0) (oJ a0 a0_o a0_n a1 a2 a3 (flat c3 v4) v4.length v5 v6):=by
 intro n
 induction n with|zero=>intro v4 v5 v6 hi hn;exact absurd hn (dX _)|succ n ih=>?_
 intro v4 v5 v6 hi hn;refine aN ?_;have hw_0:W (v5 - 1)=v5 - 1:=(aH (n:=v5 - 1) oM oM).trans oM;have hw_1:W (v5+1)=v5+1:=(aH (n:=v5+1) oM oM).trans oM;have hw_2:W (v6+1)=v6+1:=(aH (n:=v6+1) oM oM).trans oM;have hw_3:W (a2 - a1)=a2 - a1:=(aH (n:=a2 - a1) oM oM).trans oM;have hw_4:W (v5 - a1)=v5 - a1:=(aH (n:=v5 - a1) oM oM).trans oM;have hw_5:W (a2 - v5)=a2 - v5:=(aH (n:=a2 - v5) oM oM).trans oM;rw [aZ,eZ];cases h0:(decide ((v5:Int) < a2))
 case true=>
  have q0:=eS h0;let t1:SL:=[.d h0,.i v5 a0_n,cL aF v4 a0_o v5 0 1,.i (W (v5 - 1)) a0_n,cL aF v4 a0_o (W (v5 - 1)) 0 1,.c [1,2,0,3] (vB ((a3.1.1,a3.1.2.1,(v4,a3.1.2.2.2)),a3.2) (v4.getD (a0_o+tN v5) dF) (v4.getD (a0_o+tN (W (v5 - 1))) dF) oM (by(try simp only [Lt]);omega) oM (hi.2.1.at oM) (hi.2.1.at oM))];cases h1:(!(decide (((iC ((a3.1.1,a3.1.2.1,(v4,a3.1.2.2.2)),a3.2) (v4.getD (a0_o+tN v5) dF) (v4.getD (a0_o+tN (W (v5 - 1))) dF)):Int) < 0)))
  case true=>refine ba (t1++[.d h1]) [] [0,1,2,3,9,10] [] hcx (m:=n) pX (pY n0) (oJ a0 a0_o a0_n a1 a2 a3 (flat c3 v4) (v4.length) (W (v5+1)) v6) oK ?_;have z0:(W (v5+1))=(v5+1):=aH oM oM;rw [z0];exact ih _ _ _ (by and_intros<;>(try simp only [Lt])<;>first | omega | assumption | exact hi.2.1 | exact hi.2.2.1 | exact InR.swap hi.2.1 oM oM | exact InR.swap hr oM oM) oM
  let t2:SL:=t1++[.d h1];cases h2:((v5:Int) == a2)
  case true=>
   try dsimp only [bN]
   try dsimp only
   exact zE (t2++[.d h2]) [] [0] [] hcx oK
  let t3:SL:=t2++[.d h2];cases h3:(decide (((W (a2 - a1)):Int) < 50))
  case true=>
   try dsimp only [bN]
   try dsimp only
   exact zE (t3++[.d h3]) [] [0] [] hcx oK
  have q3:=iF h3;let t4:SL:=t3++[.d h3,.i (W (v5 - 1)) a0_n,cL aF v4 a0_o (W (v5 - 1)) 0 1,.i v5 a0_n,cL aF v4 a0_o v5 0 1,.i v5 a0_n,.p (show((0+a0_o*1+tN v5*1)+1<=(flat c3 v4).length) from(aY aF oL (o:=0) (Nb rfl))),.i (W (v5 - 1)) a0_n,.p (show((0+a0_o*1+tN (W (v5 - 1))*1)+1<=(splice (flat c3 v4) (0+a0_o*1+tN v5*1) [(iv (v4.getD (a0_o+tN (W (v5 - 1))) dF))]).length) from(by rw [show(splice (flat c3 v4) (0+a0_o*1+tN v5*1) [(iv (v4.getD (a0_o+tN (W (v5 - 1))) dF))])=flat c3 (v4.set (a0_o+tN v5) (v4.getD (a0_o+tN (W (v5 - 1))) dF)) from(aO aF oL (o:=0) (d:=dF) (Nb rfl) rfl)];exact aY aF oL (o:=0) (Nb rfl)))];cases h4:(decide (((W (v5 - a1)):Int)≥2))
  case true=>
   have q4:=eS h4;refine en (t4++[.d h4]) [] [0,1,2,3,9,10,11] [] hcx mE (mF n0) (kU a0 a0_o a0_n a1 a2 a3 (splice (splice (flat c3 v4) (0+a0_o*1+tN v5*1) [(iv (v4.getD (a0_o+tN (W (v5 - 1))) dF))]) (0+a0_o*1+tN (W (v5 - 1))*1) [(iv (v4.getD (a0_o+tN v5) dF))]) (v4.length) v5 v6 (W (v5 - 1))) (tN (W (v5 - 1))+1) oK ?_;have z0:(splice (splice (flat c3 v4) (0+a0_o*1+tN v5*1) [(iv (v4.getD (a0_o+tN (W (v5 - 1))) dF))]) (0+a0_o*1+tN (W (v5 - 1))*1) [(iv (v4.getD (a0_o+tN v5) dF))])=flat c3 ((v4.set (a0_o+tN v5) (v4.getD (a0_o+tN (W (v5 - 1))) dF)).set (a0_o+tN (W (v5 - 1))) (v4.getD (a0_o+tN v5) dF)):=(by rw [show(splice (flat c3 v4) (0+a0_o*1+tN v5*1) [(iv (v4.getD (a0_o+tN (W (v5 - 1))) dF))])=flat c3 (v4.set (a0_o+tN v5) (v4.getD (a0_o+tN (W (v5 - 1))) dF)) from(aO aF oL (o:=0) (d:=dF) (Nb rfl) rfl)];exact aO aF oL (o:=0) (d:=dF) (Nb rfl) rfl);have z1:v4.length=((v4.set (a0_o+tN v5) (v4.getD (a0_o+tN (W (v5 - 1))) dF)).set (a0_o+tN (W (v5 - 1))) (v4.getD (a0_o+tN v5) dF)).length:=by simp
   rw [z0,z1];exact vT a0 a0_o a0_n a1 a2 a3 l0 l3_1_1 l3_1_2_2_1 l3_1_2_2_2 hw hr hab hcx n0 g0 (tN (W (v5 - 1))+1) ((v4.set (a0_o+tN v5) (v4.getD (a0_o+tN (W (v5 - 1))) dF)).set (a0_o+tN (W (v5 - 1))) (v4.getD (a0_o+tN v5) dF)) v5 v6 (W (v5 - 1)) (by and_intros<;>(try simp only [Lt])<;>first | omega | assumption | exact hi.2.1 | exact hi.2.2.1 | exact InR.swap hi.2.1 oM oM | exact InR.swap hr oM oM) oM
  have q4:=iF h4;let t5:SL:=t4++[.d h4];cases h5:(decide (((W (a2 - v5)):Int)≥2))
  case true=>
   refine en (t5++[.d h5]) [] [0,1,2,3,9,10,12] [] hcx iO (iP n0) (gY a0 a0_o a0_n a1 a2 a3 (splice (splice (flat c3 v4) (0+a0_o*1+tN v5*1) [(iv (v4.getD (a0_o+tN (W (v5 - 1))) dF))]) (0+a0_o*1+tN (W (v5 - 1))*1) [(iv (v4.getD (a0_o+tN v5) dF))]) (v4.length) v5 v6 (W (v5+1))) (tN (a2 - (v5+1))+1) oK ?_;have z0:(W (v5+1))=(v5+1):=aH oM oM;have z1:(splice (splice (flat c3 v4) (0+a0_o*1+tN v5*1) [(iv (v4.getD (a0_o+tN (W (v5 - 1))) dF))]) (0+a0_o*1+tN (W (v5 - 1))*1) [(iv (v4.getD (a0_o+tN v5) dF))])=flat c3 ((v4.set (a0_o+tN v5) (v4.getD (a0_o+tN (W (v5 - 1))) dF)).set (a0_o+tN (W (v5 - 1))) (v4.getD (a0_o+tN v5) dF)):=(by rw [show(splice (flat c3 v4) (0+a0_o*1+tN v5*1) [(iv (v4.getD (a0_o+tN (W (v5 - 1))) dF))])=flat c3 (v4.set (a0_o+tN v5) (v4.getD (a0_o+tN (W (v5 - 1))) dF)) from(aO aF oL (o:=0) (d:=dF) (Nb rfl) rfl)];exact aO aF oL (o:=0) (d:=dF) (Nb rfl) rfl);have z2:v4.length=((v4.set (a0_o+tN v5) (v4.getD (a0_o+tN (W (v5 - 1))) dF)).set (a0_o+tN (W (v5 - 1))) (v4.getD (a0_o+tN v5) dF)).length:=by simp
   rw [z0,z1,z2];exact mH a0 a0_o a0_n a1 a2 a3 l0 l3_1_1 l3_1_2_2_1 l3_1_2_2_2 hw hr hab hcx n0 g0 (tN (a2 - (v5+1))+1) ((v4.set (a0_o+tN v5) (v4.getD (a0_o+tN (W (v5 - 1))) dF)).set (a0_o+tN (W (v5 - 1))) (v4.getD (a0_o+tN v5) dF)) v5 v6 (v5+1) (by and_intros<;>(try simp only [Lt])<;>first | omega | assumption | exact hi.2.1 | exact hi.2.2.1 | exact InR.swap hi.2.1 oM oM | exact InR.swap hr oM oM) oM
  have q5:=iF h5;refine bA n0 (t5++[.d h5]) [0,1,2,3,9,10] [] hcx cE (dG a0 a0_o a0_n a1 a2 a3 (splice (splice (flat c3 v4) (0+a0_o*1+tN v5*1) [(iv (v4.getD (a0_o+tN (W (v5 - 1))) dF))]) (0+a0_o*1+tN (W (v5 - 1))*1) [(iv (v4.getD (a0_o+tN v5) dF))]) (v4.length) v5 (W (v6+1))) ?_;have z0:(W (v6+1))=(v6+1):=aH oM oM;have z1:(splice (splice (flat c3 v4) (0+a0_o*1+tN v5*1) [(iv (v4.getD (a0_o+tN (W (v5 - 1))) dF))]) (0+a0_o*1+tN (W (v5 - 1))*1) [(iv (v4.getD (a0_o+tN v5) dF))])=flat c3 ((v4.set (a0_o+tN v5) (v4.getD (a0_o+tN (W (v5 - 1))) dF)).set (a0_o+tN (W (v5 - 1))) (v4.getD (a0_o+tN v5) dF)):=(by rw [show(splice (flat c3 v4) (0+a0_o*1+tN v5*1) [(iv (v4.getD (a0_o+tN (W (v5 - 1))) dF))])=flat c3 (v4.set (a0_o+tN v5) (v4.getD (a0_o+tN (W (v5 - 1))) dF)) from(aO aF oL (o:=0) (d:=dF) (Nb rfl) rfl)];exact aO aF oL (o:=0) (d:=dF) (Nb rfl) rfl);have z2:v4.length=((v4.set (a0_o+tN v5) (v4.getD (a0_o+tN (W (v5 - 1))) dF)).set (a0_o+tN (W (v5 - 1))) (v4.getD (a0_o+tN v5) dF)).length:=by simp
  rw [z0,z1,z2];exact g0 ((v4.set (a0_o+tN v5) (v4.getD (a0_o+tN (W (v5 - 1))) dF)).set (a0_o+tN (W (v5 - 1))) (v4.getD (a0_o+tN v5) dF)) v5 (v6+1) (by and_intros<;>(try simp only [Lt])<;>first | omega | assumption | exact hi.2.1 | exact hi.2.2.1 | exact InR.swap hi.2.1 oM oM | exact InR.swap hr oM oM) oM
 have q0:=iF h0;let t1:SL:=[.d h0];cases h1:((v5:Int) == a2)
 case true=>
  try dsimp only [bN]
  try dsimp only
  exact zE (t1++[.d h1]) [] [0] [] hcx oK
 have q1:=ne_of_beq_false h1;let t2:SL:=t1++[.d h1];cases h2:(decide (((W (a2 - a1)):Int) < 50))
 case true=>
  try dsimp only [bN]
  try dsimp only
  exact zE (t2++[.d h2]) [] [0] [] hcx oK
 have q2:=iF h2;let t3:SL:=t2++[.d h2,.i (W (v5 - 1)) a0_n,cL aF v4 a0_o (W (v5 - 1)) 0 1,.i v5 a0_n,cL aF v4 a0_o v5 0 1,.i v5 a0_n,.p (show((0+a0_o*1+tN v5*1)+1<=(flat c3 v4).length) from(aY aF oL (o:=0) (Nb rfl))),.i (W (v5 - 1)) a0_n,.p (show((0+a0_o*1+tN (W (v5 - 1))*1)+1<=(splice (flat c3 v4) (0+a0_o*1+tN v5*1) [(iv (v4.getD (a0_o+tN (W (v5 - 1))) dF))]).length) from(by rw [show(splice (flat c3 v4) (0+a0_o*1+tN v5*1) [(iv (v4.getD (a0_o+tN (W (v5 - 1))) dF))])=flat c3 (v4.set (a0_o+tN v5) (v4.getD (a0_o+tN (W (v5 - 1))) dF)) from(aO aF oL (o:=0) (d:=dF) (Nb rfl) rfl)];exact aY aF oL (o:=0) (Nb rfl)))];cases h3:(decide (((W (v5 - a1)):Int)≥2))
 case true=>
  have q3:=eS h3;refine en (t3++[.d h3]) [] [0,1,2,3,9,10,11] [] hcx mE (mF n0) (kU a0 a0_o a0_n a1 a2 a3 (splice (splice (flat c3 v4) (0+a0_o*1+tN v5*1) [(iv (v4.getD (a0_o+tN (W (v5 - 1))) dF))]) (0+a0_o*1+tN (W (v5 - 1))*1) [(iv (v4.getD (a0_o+tN v5) dF))]) (v4.length) v5 v6 (W (v5 - 1))) (tN (W (v5 - 1))+1) oK ?_;have z0:(splice (splice (flat c3 v4) (0+a0_o*1+tN v5*1) [(iv (v4.getD (a0_o+tN (W (v5 - 1))) dF))]) (0+a0_o*1+tN (W (v5 - 1))*1) [(iv (v4.getD (a0_o+tN v5) dF))])=flat c3 ((v4.set (a0_o+tN v5) (v4.getD (a0_o+tN (W (v5 - 1))) dF)).set (a0_o+tN (W (v5 - 1))) (v4.getD (a0_o+tN v5) dF)):=(by rw [show(splice (flat c3 v4) (0+a0_o*1+tN v5*1) [(iv (v4.getD (a0_o+tN (W (v5 - 1))) dF))])=flat c3 (v4.set (a0_o+tN v5) (v4.getD (a0_o+tN (W (v5 - 1))) dF)) from(aO aF oL (o:=0) (d:=dF) (Nb rfl) rfl)];exact aO aF oL (o:=0) (d:=dF) (Nb rfl) rfl);have z1:v4.length=((v4.set (a0_o+tN v5) (v4.getD (a0_o+tN (W (v5 - 1))) dF)).set (a0_o+tN (W (v5 - 1))) (v4.getD (a0_o+tN v5) dF)).length:=by simp
  rw [z0,z1];exact vT a0 a0_o a0_n a1 a2 a3 l0 l3_1_1 l3_1_2_2_1 l3_1_2_2_2 hw hr hab hcx n0 g0 (tN (W (v5 - 1))+1) ((v4.set (a0_o+tN v5) (v4.getD (a0_o+tN (W (v5 - 1))) dF)).set (a0_o+tN (W (v5 - 1))) (v4.getD (a0_o+tN v5) dF)) v5 v6 (W (v5 - 1)) (by and_intros<;>(try simp only [Lt])<;>first | omega | assumption | exact hi.2.1 | exact hi.2.2.1 | exact InR.swap hi.2.1 oM oM | exact InR.swap hr oM oM) oM
 have q3:=iF h3;let t4:SL:=t3++[.d h3];cases h4:(decide (((W (a2 - v5)):Int)≥2))
 case true=>
  refine en (t4++[.d h4]) [] [0,1,2,3,9,10,12] [] hcx iO (iP n0) (gY a0 a0_o a0_n a1 a2 a3 (splice (splice (flat c3 v4) (0+a0_o*1+tN v5*1) [(iv (v4.getD (a0_o+tN (W (v5 - 1))) dF))]) (0+a0_o*1+tN (W (v5 - 1))*1) [(iv (v4.getD (a0_o+tN v5) dF))]) (v4.length) v5 v6 (W (v5+1))) (tN (a2 - (v5+1))+1) oK ?_;have z0:(W (v5+1))=(v5+1):=aH oM oM;have z1:(splice (splice (flat c3 v4) (0+a0_o*1+tN v5*1) [(iv (v4.getD (a0_o+tN (W (v5 - 1))) dF))]) (0+a0_o*1+tN (W (v5 - 1))*1) [(iv (v4.getD (a0_o+tN v5) dF))])=flat c3 ((v4.set (a0_o+tN v5) (v4.getD (a0_o+tN (W (v5 - 1))) dF)).set (a0_o+tN (W (v5 - 1))) (v4.getD (a0_o+tN v5) dF)):=(by rw [show(splice (flat c3 v4) (0+a0_o*1+tN v5*1) [(iv (v4.getD (a0_o+tN (W (v5 - 1))) dF))])=flat c3 (v4.set (a0_o+tN v5) (v4.getD (a0_o+tN (W (v5 - 1))) dF)) from(aO aF oL (o:=0) (d:=dF) (Nb rfl) rfl)];exact aO aF oL (o:=0) (d:=dF) (Nb rfl) rfl);have z2:v4.length=((v4.set (a0_o+tN v5) (v4.getD (a0_o+tN (W (v5 - 1))) dF)).set (a0_o+tN (W (v5 - 1))) (v4.getD (a0_o+tN v5) dF)).length:=by simp
  rw [z0,z1,z2];exact mH a0 a0_o a0_n a1 a2 a3 l0 l3_1_1 l3_1_2_2_1 l3_1_2_2_2 hw hr hab hcx n0 g0 (tN (a2 - (v5+1))+1) ((v4.set (a0_o+tN v5) (v4.getD (a0_o+tN (W (v5 - 1))) dF)).set (a0_o+tN (W (v5 - 1))) (v4.getD (a0_o+tN v5) dF)) v5 v6 (v5+1) (by and_intros<;>(try simp only [Lt])<;>first | omega | assumption | exact hi.2.1 | exact hi.2.2.1 | exact InR.swap hi.2.1 oM oM | exact InR.swap hr oM oM) oM
 refine bA n0 (t4++[.d h4]) [0,1,2,3,9,10] [] hcx cE (dG a0 a0_o a0_n a1 a2 a3 (splice (splice (flat c3 v4) (0+a0_o*1+tN v5*1) [(iv (v4.getD (a0_o+tN (W (v5 - 1))) dF))]) (0+a0_o*1+tN (W (v5 - 1))*1) [(iv (v4.getD (a0_o+tN v5) dF))]) (v4.length) v5 (W (v6+1))) ?_;have z0:(W (v6+1))=(v6+1):=aH oM oM;have z1:(splice (splice (flat c3 v4) (0+a0_o*1+tN v5*1) [(iv (v4.getD (a0_o+tN (W (v5 - 1))) dF))]) (0+a0_o*1+tN (W (v5 - 1))*1) [(iv (v4.getD (a0_o+tN v5) dF))])=flat c3 ((v4.set (a0_o+tN v5) (v4.getD (a0_o+tN (W (v5 - 1))) dF)).set (a0_o+tN (W (v5 - 1))) (v4.getD (a0_o+tN v5) dF)):=(by rw [show(splice (flat c3 v4) (0+a0_o*1+tN v5*1) [(iv (v4.getD (a0_o+tN (W (v5 - 1))) dF))])=flat c3 (v4.set (a0_o+tN v5) (v4.getD (a0_o+tN (W (v5 - 1))) dF)) from(aO aF oL (o:=0) (d:=dF) (Nb rfl) rfl)];exact aO aF oL (o:=0) (d:=dF) (Nb rfl) rfl);have z2:v4.length=((v4.set (a0_o+tN v5) (v4.getD (a0_o+tN (W (v5 - 1))) dF)).set (a0_o+tN (W (v5 - 1))) (v4.getD (a0_o+tN v5) dF)).length:=by simp
 rw [z0,z1,z2];exact g0 ((v4.set (a0_o+tN v5) (v4.getD (a0_o+tN (W (v5 - 1))) dF)).set (a0_o+tN (W (v5 - 1))) (v4.getD (a0_o+tN v5) dF)) v5 (v6+1) (by and_intros<;>(try simp only [Lt])<;>first | omega | assumption | exact hi.2.1 | exact hi.2.2.1 | exact InR.swap hi.2.1 oM oM | exact InR.swap hr oM oM) oM
theorem aFl (a0:ZL)(a0_o a0_n:Nat)(a1 a2:Int)(a3:eG×Int)(l0:a0.length<=2^63-1)(l3_1_1:a3.1.1.length<=2^63-1)(l3_1_2_2_1:a3.1.2.2.1.length<=2^63-1)(l3_1_2_2_2:a3.1.2.2.2.length<=2^63-1)(hw:a0_o+a0_n<=a0.length/\a0.length<=1048576)(hr:InR a3.1.1.length a0)(hab:0<=a1/\a1 < a2/\a2<=↑a0_n) {cx:Cx} (hcx:cx.base=4):∀(n:Nat) (v1:ZL) (v2 v3:Int),(v1.length=a0.length)/\(InR a3.1.1.length v1)/\(a1 < v2)/\(v2<=a2)/\(0<=v3)/\(v3<=5)->tN (5 - v3) < n->gG Tryz.f187 cx (.v (.bool (aG (bL a0 a0_o a0_n a1 a2 a3) n (v1,v2,v3)).1)) [] [(.live true true (flat c3 (aG (bL a0 a0_o a0_n a1 a2 a3) n (v1,v2,v3)).2)),.un,.un,.un] (.l cE.1 n::cE.2) (dG a0 a0_o a0_n a1 a2 a3 (flat c3 v1) v1.length v2 v3):=by
 intro n
 induction n with|zero=>intro v1 v2 v3 hi hn;exact absurd hn (dX _)|succ n ih=>?_
 intro v1 v2 v3 hi hn;refine aN ?_;have hw_0:W (v2 - 1)=v2 - 1:=(aH (n:=v2 - 1) oM oM).trans oM;have hw_1:W (v2+1)=v2+1:=(aH (n:=v2+1) oM oM).trans oM;have hw_2:W (v3+1)=v3+1:=(aH (n:=v3+1) oM oM).trans oM;have hw_3:W (a2 - a1)=a2 - a1:=(aH (n:=a2 - a1) oM oM).trans oM;have hw_4:W (v2 - a1)=v2 - a1:=(aH (n:=v2 - a1) oM oM).trans oM;have hw_5:W (a2 - v2)=a2 - v2:=(aH (n:=a2 - v2) oM oM).trans oM;rw [aZ,bL];cases h0:(decide ((v3:Int) < 5))
 case true=>have q0:=eS h0;refine en [.d h0] [] [0,1,2,3,9,10] [] hcx pX (pY n) (oJ a0 a0_o a0_n a1 a2 a3 (flat c3 v1) (v1.length) v2 v3) (tN (a2 - v2)+1) oK ?_;exact aFk a0 a0_o a0_n a1 a2 a3 l0 l3_1_1 l3_1_2_2_1 l3_1_2_2_2 hw hr hab hcx n ih (tN (a2 - v2)+1) v1 v2 v3 (by and_intros<;>(try simp only [Lt])<;>first | omega | assumption | exact hi.2.1 | exact hi.2.2.1 | exact InR.swap hi.2.1 oM oM | exact InR.swap hr oM oM) oM
 try dsimp only [bN]
 try dsimp only
 exact zE [.d h0] [] [0] [] hcx oK
def cM (a0:ZL)(a0_o a0_n:Nat)(a1 a2:Int)(a3:eG×Int):Bool×ZL := (aG (bL a0 a0_o a0_n a1 a2 a3) (tN (5 - 0)+1) (a0,(W (a1+1)),0))
theorem aKg (a0:ZL)(a0_o a0_n:Nat)(a1 a2:Int)(a3:eG×Int)(l0:a0.length<=2^63-1)(l3_1_1:a3.1.1.length<=2^63-1)(l3_1_2_2_1:a3.1.2.2.1.length<=2^63-1)(l3_1_2_2_2:a3.1.2.2.2.length<=2^63-1)(hw:a0_o+a0_n<=a0.length/\a0.length<=1048576)(hr:InR a3.1.1.length a0)(hab:0<=a1/\a1 < a2/\a2<=↑a0_n):Con Tryz.prog 187 [(.s 0 (0+a0_o*1) a0_n 1),(iv a1),(iv a2),(.f 1000126 [(.a [(.p 1 0),(iv a3.2)])])] [(.live true true (flat c3 a0)),(.live false false [(.s 2 0 a3.1.1.length 10),(iv a3.1.2.1),(.s 0 0 a0.length 1),(.s 3 0 a3.1.2.2.2.length 8)]),(.live false true (flat dI a3.1.1)),(.live false true (flat cR a3.1.2.2.2))] (.v (.bool (cM a0 a0_o a0_n a1 a2 a3).1)) [] [(.live true true (flat c3 (cM a0 a0_o a0_n a1 a2 a3).2)),.un,.un,.un]:=by
 refine cS Tryz.func187 fun cx hcx=>?_
 have hw_0:W (a1+1)=a1+1:=(aH (n:=a1+1) oM oM).trans oM;refine eN [] [0,1,2,3,9,10] [] hcx cE (dG a0 a0_o a0_n a1 a2 a3 (flat c3 a0) (a0.length) (W (a1+1)) 0) (tN (5 - 0)+1) ?_;exact aFl a0 a0_o a0_n a1 a2 a3 l0 l3_1_1 l3_1_2_2_1 l3_1_2_2_2 hw hr hab hcx (tN (5 - 0)+1) a0 (W (a1+1)) 0 (by and_intros<;>(try simp only [Lt])<;>first | omega | assumption | exact hi.2.1 | exact hi.2.2.1 | exact InR.swap hi.2.1 oM oM | exact InR.swap hr oM oM) oM
def aT (a0:ZL)(a0_o a0_n:Nat)(a1 a2 a3:Int)(a4:eG×Int):Zt := (bif (decide (((iC ((a4.1.1,a4.1.2.1,(a0,a4.1.2.2.2)),a4.2) (a0.getD (a0_o+tN a2) dF) (a0.getD (a0_o+tN a1) dF)):Int) < 0))then(a2,a1,(W (a3+1)))else(a1,a2,a3))
theorem tG (a0:ZL)(a0_o a0_n:Nat)(a1 a2 a3:Int)(a4:eG×Int)(l0:a0.length<=2^63-1)(l4_1_1:a4.1.1.length<=2^63-1)(l4_1_2_2_1:a4.1.2.2.1.length<=2^63-1)(l4_1_2_2_2:a4.1.2.2.2.length<=2^63-1)(hw:a0_o+a0_n<=a0.length/\a0.length<=1048576)(hr:InR a4.1.1.length a0)(hab:0<=a1/\a1 < ↑a0_n/\0<=a2/\a2 < ↑a0_n):Con Tryz.prog 205 [(.s 0 (0+a0_o*1) a0_n 1),(iv a1),(iv a2),(.p 1 0),(.f 1000126 [(.a [(.p 2 0),(iv a4.2)])])] [(.live false true (flat c3 a0)),(.live true false [(iv a3)]),(.live false false [(.s 3 0 a4.1.1.length 10),(iv a4.1.2.1),(.s 0 0 a0.length 1),(.s 4 0 a4.1.2.2.2.length 8)]),(.live false true (flat dI a4.1.1)),(.live false true (flat cR a4.1.2.2.2))] (.t [(iv (aT a0 a0_o a0_n a1 a2 a3 a4).1),(iv (aT a0 a0_o a0_n a1 a2 a3 a4).2.1)]) [] [.un,(.live true false [(iv (aT a0 a0_o a0_n a1 a2 a3 a4).2.2)]),.un,.un,.un]:=by
 refine cS Tryz.func205 fun cx hcx=>?_
 let t0:SL:=[.i a2 a0_n,cL aF a0 a0_o a2 0 1,.i a1 a0_n,cL aF a0 a0_o a1 0 1,.c [2,3,0,4] (vB ((a4.1.1,a4.1.2.1,(a0,a4.1.2.2.2)),a4.2) (a0.getD (a0_o+tN a2) dF) (a0.getD (a0_o+tN a1) dF) oM oM oM (hr.at oM) (hr.at oM))];rw [aT];cases h0:(decide (((iC ((a4.1.1,a4.1.2.1,(a0,a4.1.2.2.2)),a4.2) (a0.getD (a0_o+tN a2) dF) (a0.getD (a0_o+tN a1) dF)):Int) < 0))
 case true=>
  try dsimp only [bN]
  try dsimp only
  exact zE (t0++[.d h0]) [] [1] [] hcx oK
 try dsimp only [bN]
 try dsimp only
 exact zE (t0++[.d h0]) [] [1] [] hcx oK
abbrev sL:=eG×Int
def bH (c:sL)(x y:Int):Bool:=decide (iC c x y < 0)
theorem aOb (c:sL)(v:ZL)(x y:Int):iC ((c.1.1,c.1.2.1,(v,c.1.2.2.2)),c.2) x y=iC c x y:=rfl
theorem aOc (c:sL)(x y:Int):decide (iC c x y < 0)=bH c x y:=rfl
def wp (l:ZL)(o:Nat)(d:Array Int):ZL:=l.take o++d.toList++l.drop (o+d.size)
def kV (l:ZL)(o n:Nat):Array Int:=((l.drop o).take n).toArray
theorem fM {l:ZL} {o n:Nat} (h:o+n<=l.length):(kV l o n).size=n:=by unfold kV;simp;omega
section
variable {l : ZL} {o : Nat} {d : Array Int}
theorem aDw (h:o+d.size<=l.length):(wp l o d).length=l.length:=by unfold wp;simp;omega
theorem cT (h:o+d.size<=l.length) {i:Nat} (hi:i < d.size):(wp l o d).getD (o+i) dF=d[i]! := by
 unfold wp;have h1:(l.take o++d.toList).length=o+d.size:=by simp;omega
 rw [gS,List.getElem?_append_left oM,List.getElem?_append_right (by simp;omega)];rw [show o+i - (l.take o).length=i by simp;omega];rw [getElem!_pos d i hi];simp [hi]
theorem aSr (h:o+d.size<=l.length) {i:Nat} (hi:i < d.size)(x:Int):(wp l o d).set (o+i) x=wp l o (d.setIfInBounds i x):=by
 unfold wp;have h0:(l.take o).length=o:=by simp;omega
 rw [List.append_assoc,List.set_append_right _ _ oM,h0,show o+i - o=i by omega,List.set_append_left _ _ (by simpa using hi),List.append_assoc,Array.toList_setIfInBounds,Array.size_setIfInBounds]
theorem gL (h:o+d.size<=l.length) {i j:Nat} (hi:i < d.size)(hj:j < d.size) :
 ((wp l o d).set (o+i) ((wp l o d).getD (o+j) dF)).set (o+j) ((wp l o d).getD (o+i) dF)=wp l o (Go.Sort.swp d i j):=by
 rw [cT h hi,cT h hj,aSr h hi,aSr (by simpa using h) (by simpa using hj)];rfl
theorem oN {n:Nat} (h:o+n<=l.length):wp l o (kV l o n)=l:=by
 unfold wp;rw [fM h];unfold kV;have:(l.drop o).drop n=l.drop (o+n):=by rw [List.drop_drop]
 rw [←this,List.append_assoc];show l.take o++((l.drop o).take n++(l.drop o).drop n)=l;rw [List.take_append_drop,List.take_append_drop]
theorem tH (d:Array Int)(i j:Nat):(Go.Sort.swp d i j).size=d.size:=by simp [Go.Sort.swp]
theorem wN {x:Int} {n:Nat} (h:x=(n:Int))(hn:n<=4611686018427387904):W x=(n:Int):=by rw [h];exact aH oM oM
end
end Go.Proofs.YtlffahoikfahlaaGreat
namespace Go.Proofs.YtlffahoikfahlaaGreat
open Go.Proofs Go.Aw Go.RowKit
set_option maxRecDepth 100000
section
variable {N o n hi first : Nat} {l l0 : ZL} {a1 : Int} {c : sL}
theorem aHs (hl:o+n<=l.length)(hfh:first+hi<=n)(hn:n<=1048576):∀(m:Nat) (d:Array Int) (root:Nat),d.size=n->root<=1048576->hi - root < m ->
 aG (eB l0 o n a1 (hi:Int) (first:Int) c) m (wp l o d,(root:Int))=wp l o (Go.Sort.siftDown (bH c) hi first root d)/\(InR N (wp l o d)->InR N (wp l o (Go.Sort.siftDown (bH c) hi first root d)))/\(Go.Sort.siftDown (bH c) hi first root d).size=n
 | 0,d,root,_,_,h=>absurd h (dX _)
 | m+1,d,root,hd,hr,hm=>by
  have e1:W ((W (2*(root:Int)))+1)=((2*root+1:Nat):Int):=by rw [wN (x:=2*(root:Int)) (n:=2*root) oM oM];exact wN oM oM
  have e2:W (((2*root+1:Nat):Int)+1)=((2*root+2:Nat):Int):=wN oM oM;have e3:W ((first:Int)+(root:Int))=((first+root:Nat):Int):=wN oM oM;have e4:W ((first:Int)+((2*root+1:Nat):Int))=((first+(2*root+1):Nat):Int):=wN oM oM;have e5:W ((first:Int)+((2*root+2:Nat):Int))=((first+(2*root+2):Nat):Int):=wN oM oM;have e6:W (((first+(2*root+1):Nat):Int)+1)=((first+(2*root+2):Nat):Int):=wN oM oM;have hl':o+d.size<=l.length:=by omega
  rw [Go.Sort.siftDown];by_cases h1:2*root+1≥hi
  ·rw [dif_pos h1];refine⟨aL ?_,id,hd⟩;simp only [eB,e1];rw [bX oM,cond_true]
  ·rw [dif_neg h1];have g1:=cT hl' (i:=first+(2*root+1)) oM;have g0:=cT hl' (i:=first+root) oM;have one:∀k,k < hi->root < k->((eB l0 o n a1 (hi:Int) (first:Int) c (wp l o d,(root:Int))=(bif (!bH c d[first+root]! d[first+k]!) then .inr (wp l o d) else .inl (wp l o (Go.Sort.swp d (first+root) (first+k)),(k:Int)))) ->
    aG (eB l0 o n a1 (hi:Int) (first:Int) c) (m+1) (wp l o d,(root:Int))=wp l o (if !bH c d[first+root]! d[first+k]! then d else Go.Sort.siftDown (bH c) hi first k (Go.Sort.swp d (first+root) (first+k)))/\(InR N (wp l o d)->InR N (wp l o (if !bH c d[first+root]! d[first+k]! then d else Go.Sort.siftDown (bH c) hi first k (Go.Sort.swp d (first+root) (first+k)))))/\(if !bH c d[first+root]! d[first+k]! then d else Go.Sort.siftDown (bH c) hi first k (Go.Sort.swp d (first+root) (first+k))).size=n):=fun k hk hrk e=>by
    cases q:bH c d[first+root]! d[first+k]!
    case false=>rw [q] at e;exact⟨aL e,id,hd⟩
    rw [q] at e;have e':eB l0 o n a1 (hi:Int) (first:Int) c (wp l o d,(root:Int))=.inl (wp l o (Go.Sort.swp d (first+root) (first+k)),(k:Int)):=e;rw [aK e'];simp only [Bool.not_true,Bool.false_eq_true,if_false];have ih:=aHs hl hfh hn m (Go.Sort.swp d (first+root) (first+k)) k (by rw [tH];exact hd) oM oM;refine⟨ih.1,fun hI=>ih.2.1 ?_,ih.2.2⟩;rw [←gL hl' oM oM];exact hI.swap (by rw [aDw hl'];omega) (by rw [aDw hl'];omega)
   have big:eB l0 o n a1 (hi:Int) (first:Int) c (wp l o d,(root:Int)) =
    if 2*root+1+1 < hi&&bH c d[first+(2*root+1)]! d[first+(2*root+1)+1]! then(bif (!bH c d[first+root]! d[first+(2*root+2)]!) then .inr (wp l o d) else .inl (wp l o (Go.Sort.swp d (first+root) (first+(2*root+2))),((2*root+2:Nat):Int)))
    else(bif (!bH c d[first+root]! d[first+(2*root+1)]!) then .inr (wp l o d) else .inl (wp l o (Go.Sort.swp d (first+root) (first+(2*root+1))),((2*root+1:Nat):Int))):=by
    simp only [eB,e1,e2,e3,e4,e5,e6,iB,aOb,aOc,g1,g0];rw [cA (show ¬((2*root+1:Nat):Int)≥(hi:Int) by omega),cond_false,gL hl' (i:=first+root) (j:=first+(2*root+1)) oM oM |>.symm,g1,g0];by_cases h2:2*root+2 < hi
    ·have g2:=cT hl' (i:=first+(2*root+2)) oM;rw [bX (show((2*root+2:Nat):Int) < (hi:Int) by omega),cond_true,g2,bX (show 2*root+1+1 < hi from h2),Bool.true_and,gL hl' (i:=first+root) (j:=first+(2*root+2)) oM oM |>.symm,g2,g0];show _=if bH c d[first+(2*root+1)]! d[first+(2*root+2)]! = true then _ else _
     cases bH c d[first+(2*root+1)]! d[first+(2*root+2)]! <;> rfl
    ·rw [cA (show ¬((2*root+2:Nat):Int) < (hi:Int) by omega),cond_false,cA (show ¬2*root+1+1 < hi from h2),Bool.false_and];rfl
   by_cases h2:(2*root+1+1 < hi&&bH c d[first+(2*root+1)]! d[first+(2*root+1)+1]!)=true
   ·rw [if_pos h2] at big;have hlt:2*root+2 < hi:=by simp at h2;omega
    rw [if_pos h2];simp only [hlt,dite_true];exact one _ hlt oM big
   ·rw [if_neg h2] at big;rw [if_neg h2];exact one _ oM oM big
theorem bCc (hl:o+n<=l.length)(hn:n<=1048576)(lo:Int)(hlo:0<=lo/\lo<=1048576)(hif:(0:Int)<=hi/\first+hi<=n)(hI:InR N l) :
 dN l o n lo (hi:Int) (first:Int) c=wp l o (Go.Sort.siftDown (bH c) hi first lo.toNat (kV l o n))/\InR N (dN l o n lo (hi:Int) (first:Int) c)/\(Go.Sort.siftDown (bH c) hi first lo.toNat (kV l o n)).size=n:=by
 unfold dN;have:=aHs (N:=N) (l:=l) (l0:=l) (o:=o) (n:=n) (a1:=lo) (hi:=hi) (first:=first) (c:=c) hl hif.2 hn (tN ((hi:Int) - lo)+1) (kV l o n) lo.toNat (fM hl) oM oM;rw [oN hl,Int.toNat_of_nonneg hlo.1] at this;refine⟨this.1,?_,this.2.2⟩;rw [this.1];exact this.2.1 hI
theorem aXk {d:Array Int} {lo:Nat} (hl:o+n<=l.length)(hn:n<=1048576)(hlo:lo<=1048576)(hf:first+hi<=n)(hd:d.size=n) :
 dN (wp l o d) o n (lo:Int) (hi:Int) (first:Int) c=wp l o (Go.Sort.siftDown (bH c) hi first lo d)/\(Go.Sort.siftDown (bH c) hi first lo d).size=n:=by
 unfold dN;have:=aHs (N:=0) (l:=l) (l0:=wp l o d) (o:=o) (n:=n) (a1:=(lo:Int)) (hi:=hi) (first:=first) (c:=c) hl hf hn (tN ((hi:Int) - (lo:Int))+1) d lo hd hlo oM;exact⟨this.1,this.2.2⟩
end
theorem aXl {N o n:Nat} {l:ZL} {lo hi first:Int} {c:sL} (hl:o+n<=l.length)(hn:n<=1048576)(hlo:0<=lo/\lo<=1048576)(h0:0<=hi/\0<=first/\first+hi<=n)(hI:InR N l) :
 (dN l o n lo hi first c).length=l.length/\InR N (dN l o n lo hi first c):=by
 obtain⟨hi,rfl⟩:∃k:Nat,hi=k:=⟨hi.toNat,by omega⟩;obtain⟨first,rfl⟩:∃k:Nat,first=k:=⟨first.toNat,by omega⟩
 have:=bCc (c:=c) hl hn lo hlo (hi:=hi) (first:=first) oM hI;refine⟨?_,this.2.1⟩;rw [this.1,aDw (by rw [this.2.2];exact hl)]
theorem aSs {n:Int} (h:0<=n/\n<=1048576):W (tD (W (n - 1)) 2)=(n+1) / 2 - 1\/n=0/\W (tD (W (n - 1)) 2)=0:=by
 by_cases h0:n=0
 ·subst h0;right;exact⟨rfl,by decide⟩
 ·left;rw [aH (n:=n - 1) oM oM,Int.tdiv_eq_ediv_of_nonneg oM,aH oM oM];omega
end Go.Proofs.YtlffahoikfahlaaGreat
namespace Go.Proofs.YtlffahoikfahlaaGreat
open Go.Proofs Go.Aw Go.RowKit
set_option maxRecDepth 100000
noncomputable def mI:=aU [1,1,1,1,1] [] (aV Tryz.f183) []
def oO (a0:ZL)(a0_o a0_n:Nat)(a1 a2:Int)(a3:eG×Int)(v4c:List SV)(v4n:Nat)(v5:Int):LS:=⟨gU 60 [(0,(.s 0 (0+a0_o*1) a0_n 1)),(3,(.f 1000126 [(.a [(.p 1 0),(iv a3.2)])])),(8,(iv a1)),(9,(iv 0)),(12,(iv v5))],[(.live true true v4c),(.live false false [(.s 2 0 a3.1.1.length 10),(iv a3.1.2.1),(.s 0 0 v4n 1),(.s 3 0 a3.1.2.2.2.length 8)]),(.live false true (flat dI a3.1.1)),(.live false true (flat cR a3.1.2.2.2))]⟩
def gM (a0:ZL)(a0_o a0_n:Nat)(a1 a2:Int)(a3:eG×Int):ZL×Int->(ZL×Int)⊕ZL | (v4,v5) => (bif (decide ((v5:Int)≥0))then(.inl ((dN ((v4.set (a0_o+tN a1) (v4.getD (a0_o+tN (W (a1+v5))) dF)).set (a0_o+tN (W (a1+v5))) (v4.getD (a0_o+tN a1) dF)) a0_o a0_n 0 v5 a1 ((a3.1.1,a3.1.2.1,(((v4.set (a0_o+tN a1) (v4.getD (a0_o+tN (W (a1+v5))) dF)).set (a0_o+tN (W (a1+v5))) (v4.getD (a0_o+tN a1) dF)),a3.1.2.2.2)),a3.2)),(W (v5 - 1))))else(.inr v4))
noncomputable def mJ:=aU [1,1,1,0,1] [] (aV Tryz.f183) []
def oP (a0:ZL)(a0_o a0_n:Nat)(a1 a2:Int)(a3:eG×Int)(v1c:List SV)(v1n:Nat)(v2:Int):LS:=⟨gU 60 [(0,(.s 0 (0+a0_o*1) a0_n 1)),(3,(.f 1000126 [(.a [(.p 1 0),(iv a3.2)])])),(8,(iv a1)),(9,(iv 0)),(10,(iv (W (a2 - a1)))),(11,(iv v2))],[(.live true true v1c),(.live false false [(.s 2 0 a3.1.1.length 10),(iv a3.1.2.1),(.s 0 0 v1n 1),(.s 3 0 a3.1.2.2.2.length 8)]),(.live false true (flat dI a3.1.1)),(.live false true (flat cR a3.1.2.2.2))]⟩
def gN (a0:ZL)(a0_o a0_n:Nat)(a1 a2:Int)(a3:eG×Int):ZL×Int->(ZL×Int)⊕ZL | (v1,v2) => (bif (decide ((v2:Int)≥0))then(.inl ((dN v1 a0_o a0_n v2 (W (a2 - a1)) a1 ((a3.1.1,a3.1.2.1,(v1,a3.1.2.2.2)),a3.2)),(W (v2 - 1))))else(.inr (aG (gM a0 a0_o a0_n a1 a2 a3) (tN ((W ((W (a2 - a1)) - 1))+1)+1) (v1,(W ((W (a2 - a1)) - 1))))))
theorem aFm (a0:ZL)(a0_o a0_n:Nat)(a1 a2:Int)(a3:eG×Int)(l0:a0.length<=2^63-1)(l3_1_1:a3.1.1.length<=2^63-1)(l3_1_2_2_1:a3.1.2.2.1.length<=2^63-1)(l3_1_2_2_2:a3.1.2.2.2.length<=2^63-1)(hw:a0_o+a0_n<=a0.length/\a0.length<=1048576)(hr:InR a3.1.1.length a0)(hab:0<=a1/\a1<=a2/\a2<=↑a0_n) {cx:Cx} (hcx:cx.base=4):∀(n:Nat) (v4:ZL) (v5:Int),(v4.length=a0.length)/\(InR a3.1.1.length v4)/\(-1<=v5)/\(v5 < a2 - a1)->tN (v5+1) < n->gG Tryz.f183 cx (.t []) [] [(.live true true (flat c3 (aG (gM a0 a0_o a0_n a1 a2 a3) n (v4,v5)))),.un,.un,.un] (.l mI.1 n::mI.2) (oO a0 a0_o a0_n a1 a2 a3 (flat c3 v4) v4.length v5):=by
 intro n
 induction n with|zero=>intro v4 v5 hi hn;exact absurd hn (dX _)|succ n ih=>?_
 intro v4 v5 hi hn;refine aN ?_;have hw_0:W (a2 - a1)=a2 - a1:=(aH (n:=a2 - a1) oM oM).trans oM;have hw_1:W ((W (a2 - a1)) - 1)=a2 - a1 - 1:=(aH (n:=(W (a2 - a1)) - 1) oM oM).trans oM;have hw_2:W (v5 - 1)=v5 - 1:=(aH (n:=v5 - 1) oM oM).trans oM;have hw_3:W (a1+v5)=a1+v5:=(aH (n:=a1+v5) oM oM).trans oM
 try obtain⟨hsd1,hsd2⟩:=(fun _=>hsd) h0
 try (have _:=h0;simp only [List.length_set] at hsd1)
 rw [aZ,gM];cases h0:(decide ((v5:Int)≥0))
 case true=>
  have q0:=eS h0
  try have hsd:=(fun _=>aXl (N:=a3.1.1.length) (l:=((v4.set (a0_o+tN a1) (v4.getD (a0_o+tN (W (a1+v5))) dF)).set (a0_o+tN (W (a1+v5))) (v4.getD (a0_o+tN a1) dF))) (o:=a0_o) (n:=a0_n) (lo:=0) (hi:=v5) (first:=a1) (c:=((a3.1.1,a3.1.2.1,(((v4.set (a0_o+tN a1) (v4.getD (a0_o+tN (W (a1+v5))) dF)).set (a0_o+tN (W (a1+v5))) (v4.getD (a0_o+tN a1) dF)),a3.1.2.2.2)),a3.2)) (by(try simp only [List.length_set]);omega) oM oM oM (by first | exact hi.2.1 | exact InR.swap hi.2.1 oM oM)) h0
  try obtain⟨hsd1,hsd2⟩:=(fun _=>hsd) h0
  try (have _:=h0;simp only [List.length_set] at hsd1)
  refine bA n [.d h0,.i (W (a1+v5)) a0_n,cL aF v4 a0_o (W (a1+v5)) 0 1,.i a1 a0_n,cL aF v4 a0_o a1 0 1,.i a1 a0_n,.p (show((0+a0_o*1+tN a1*1)+1<=(flat c3 v4).length) from(aY aF oL (o:=0) (Nb rfl))),.i (W (a1+v5)) a0_n,.p (show((0+a0_o*1+tN (W (a1+v5))*1)+1<=(splice (flat c3 v4) (0+a0_o*1+tN a1*1) [(iv (v4.getD (a0_o+tN (W (a1+v5))) dF))]).length) from(by rw [show(splice (flat c3 v4) (0+a0_o*1+tN a1*1) [(iv (v4.getD (a0_o+tN (W (a1+v5))) dF))])=flat c3 (v4.set (a0_o+tN a1) (v4.getD (a0_o+tN (W (a1+v5))) dF)) from(aO aF oL (o:=0) (d:=dF) (Nb rfl) rfl)];exact aY aF oL (o:=0) (Nb rfl))),.c [0,1,2,3] (by have q:=(aA2 ((v4.set (a0_o+tN a1) (v4.getD (a0_o+tN (W (a1+v5))) dF)).set (a0_o+tN (W (a1+v5))) (v4.getD (a0_o+tN a1) dF)) a0_o a0_n 0 v5 a1 ((a3.1.1,a3.1.2.1,(((v4.set (a0_o+tN a1) (v4.getD (a0_o+tN (W (a1+v5))) dF)).set (a0_o+tN (W (a1+v5))) (v4.getD (a0_o+tN a1) dF)),a3.1.2.2.2)),a3.2) oM oM (by(try simp only [Lt]);omega) oM oM (by first | exact hi.2.1 | exact InR.swap hi.2.1 oM oM) oM);(try dsimp only at q);rw [show flat c3 ((v4.set (a0_o+tN a1) (v4.getD (a0_o+tN (W (a1+v5))) dF)).set (a0_o+tN (W (a1+v5))) (v4.getD (a0_o+tN a1) dF))=(splice (splice (flat c3 v4) (0+a0_o*1+tN a1*1) [(iv (v4.getD (a0_o+tN (W (a1+v5))) dF))]) (0+a0_o*1+tN (W (a1+v5))*1) [(iv (v4.getD (a0_o+tN a1) dF))]) from Eq.symm (by rw [show(splice (flat c3 v4) (0+a0_o*1+tN a1*1) [(iv (v4.getD (a0_o+tN (W (a1+v5))) dF))])=flat c3 (v4.set (a0_o+tN a1) (v4.getD (a0_o+tN (W (a1+v5))) dF)) from(aO aF oL (o:=0) (d:=dF) (Nb rfl) rfl)];exact aO aF oL (o:=0) (d:=dF) (Nb rfl) rfl)] at q;(try rw [show List.length (α:=Int) ((v4.set (a0_o+tN a1) (v4.getD (a0_o+tN (W (a1+v5))) dF)).set (a0_o+tN (W (a1+v5))) (v4.getD (a0_o+tN a1) dF))=v4.length from by first | simp;done | omega] at q);exact q)] [0,3,8,9,12] [] hcx mI (oO a0 a0_o a0_n a1 a2 a3 (flat c3 (dN ((v4.set (a0_o+tN a1) (v4.getD (a0_o+tN (W (a1+v5))) dF)).set (a0_o+tN (W (a1+v5))) (v4.getD (a0_o+tN a1) dF)) a0_o a0_n 0 v5 a1 ((a3.1.1,a3.1.2.1,(((v4.set (a0_o+tN a1) (v4.getD (a0_o+tN (W (a1+v5))) dF)).set (a0_o+tN (W (a1+v5))) (v4.getD (a0_o+tN a1) dF)),a3.1.2.2.2)),a3.2))) (v4.length) (W (v5 - 1))) ?_;have z0:v4.length=(dN ((v4.set (a0_o+tN a1) (v4.getD (a0_o+tN (W (a1+v5))) dF)).set (a0_o+tN (W (a1+v5))) (v4.getD (a0_o+tN a1) dF)) a0_o a0_n 0 v5 a1 ((a3.1.1,a3.1.2.1,(((v4.set (a0_o+tN a1) (v4.getD (a0_o+tN (W (a1+v5))) dF)).set (a0_o+tN (W (a1+v5))) (v4.getD (a0_o+tN a1) dF)),a3.1.2.2.2)),a3.2)).length:=by first | omega | (simp;done)
  rw [z0];exact ih _ _ (by and_intros<;>(try simp only [Lt])<;>first | omega | assumption | exact hi.2.1 | exact hi.2.2.1 | exact InR.swap hi.2.1 oM oM | exact InR.swap hr oM oM | exact hsd2 | (rw [hsd1];omega)) oM
 try obtain⟨hsd1,hsd2⟩:=(fun _=>hsd) h0
 try (have _:=h0;simp only [List.length_set] at hsd1)
 try dsimp only [bN]
 try dsimp only
 exact rtn [.d h0] [] [0] [] hcx oK
theorem aFn (a0:ZL)(a0_o a0_n:Nat)(a1 a2:Int)(a3:eG×Int)(l0:a0.length<=2^63-1)(l3_1_1:a3.1.1.length<=2^63-1)(l3_1_2_2_1:a3.1.2.2.1.length<=2^63-1)(l3_1_2_2_2:a3.1.2.2.2.length<=2^63-1)(hw:a0_o+a0_n<=a0.length/\a0.length<=1048576)(hr:InR a3.1.1.length a0)(hab:0<=a1/\a1<=a2/\a2<=↑a0_n) {cx:Cx} (hcx:cx.base=4):∀(n:Nat) (v1:ZL) (v2:Int),(v1.length=a0.length)/\(InR a3.1.1.length v1)/\(-1<=v2)/\(v2<=a2 - a1)->tN (v2+1) < n->gG Tryz.f183 cx (.t []) [] [(.live true true (flat c3 (aG (gN a0 a0_o a0_n a1 a2 a3) n (v1,v2)))),.un,.un,.un] (.l mJ.1 n::mJ.2) (oP a0 a0_o a0_n a1 a2 a3 (flat c3 v1) v1.length v2):=by
 intro n
 induction n with|zero=>intro v1 v2 hi hn;exact absurd hn (dX _)|succ n ih=>?_
 intro v1 v2 hi hn;refine aN ?_;have hw_0:W (a2 - a1)=a2 - a1:=(aH (n:=a2 - a1) oM oM).trans oM;have hw_1:W ((W (a2 - a1)) - 1)=a2 - a1 - 1:=(aH (n:=(W (a2 - a1)) - 1) oM oM).trans oM;have hw_2:W (v2 - 1)=v2 - 1:=(aH (n:=v2 - 1) oM oM).trans oM
 try obtain⟨hsd1,hsd2⟩:=(fun _=>hsd) h0
 try (have _:=h0;simp only [List.length_set] at hsd1)
 rw [aZ,gN];cases h0:(decide ((v2:Int)≥0))
 case true=>
  have q0:=eS h0
  try have hsd:=(fun _=>aXl (N:=a3.1.1.length) (l:=v1) (o:=a0_o) (n:=a0_n) (lo:=v2) (hi:=(W (a2 - a1))) (first:=a1) (c:=((a3.1.1,a3.1.2.1,(v1,a3.1.2.2.2)),a3.2)) oM oM oM oM (by first | exact hi.2.1 | exact InR.swap hi.2.1 oM oM)) h0
  try obtain⟨hsd1,hsd2⟩:=(fun _=>hsd) h0
  try (have _:=h0;simp only [List.length_set] at hsd1)
  refine bA n [.d h0,.c [0,1,2,3] (aA2 v1 a0_o a0_n v2 (W (a2 - a1)) a1 ((a3.1.1,a3.1.2.1,(v1,a3.1.2.2.2)),a3.2) oM oM (by(try simp only [Lt]);omega) oM oM (by first | exact hi.2.1 | exact InR.swap hi.2.1 oM oM) oM)] [0,3,8,9,10,11] [] hcx mJ (oP a0 a0_o a0_n a1 a2 a3 (flat c3 (dN v1 a0_o a0_n v2 (W (a2 - a1)) a1 ((a3.1.1,a3.1.2.1,(v1,a3.1.2.2.2)),a3.2))) (v1.length) (W (v2 - 1))) ?_;have z0:v1.length=(dN v1 a0_o a0_n v2 (W (a2 - a1)) a1 ((a3.1.1,a3.1.2.1,(v1,a3.1.2.2.2)),a3.2)).length:=by first | omega | (simp;done)
  rw [z0];exact ih _ _ (by and_intros<;>(try simp only [Lt])<;>first | omega | assumption | exact hi.2.1 | exact hi.2.2.1 | exact InR.swap hi.2.1 oM oM | exact InR.swap hr oM oM | exact hsd2 | (rw [hsd1];omega)) oM
 try obtain⟨hsd1,hsd2⟩:=(fun _=>hsd) h0
 try (have _:=h0;simp only [List.length_set] at hsd1)
 refine eN [.d h0] [0,3,8,9,12] [] hcx mI (oO a0 a0_o a0_n a1 a2 a3 (flat c3 v1) (v1.length) (W ((W (a2 - a1)) - 1))) (tN ((W ((W (a2 - a1)) - 1))+1)+1) ?_;exact aFm a0 a0_o a0_n a1 a2 a3 l0 l3_1_1 l3_1_2_2_1 l3_1_2_2_2 hw hr hab hcx (tN ((W ((W (a2 - a1)) - 1))+1)+1) v1 (W ((W (a2 - a1)) - 1)) (by and_intros<;>(try simp only [Lt])<;>first | omega | assumption | exact hi.2.1 | exact hi.2.2.1 | exact InR.swap hi.2.1 oM oM | exact InR.swap hr oM oM | exact hsd2 | (rw [hsd1];omega)) oM
def jI (a0:ZL)(a0_o a0_n:Nat)(a1 a2:Int)(a3:eG×Int):ZL := (aG (gN a0 a0_o a0_n a1 a2 a3) (tN ((W (tD (W ((W (a2 - a1)) - 1)) 2))+1)+1) (a0,(W (tD (W ((W (a2 - a1)) - 1)) 2))))
theorem aKh (a0:ZL)(a0_o a0_n:Nat)(a1 a2:Int)(a3:eG×Int)(l0:a0.length<=2^63-1)(l3_1_1:a3.1.1.length<=2^63-1)(l3_1_2_2_1:a3.1.2.2.1.length<=2^63-1)(l3_1_2_2_2:a3.1.2.2.2.length<=2^63-1)(hw:a0_o+a0_n<=a0.length/\a0.length<=1048576)(hr:InR a3.1.1.length a0)(hab:0<=a1/\a1<=a2/\a2<=↑a0_n):Con Tryz.prog 183 [(.s 0 (0+a0_o*1) a0_n 1),(iv a1),(iv a2),(.f 1000126 [(.a [(.p 1 0),(iv a3.2)])])] [(.live true true (flat c3 a0)),(.live false false [(.s 2 0 a3.1.1.length 10),(iv a3.1.2.1),(.s 0 0 a0.length 1),(.s 3 0 a3.1.2.2.2.length 8)]),(.live false true (flat dI a3.1.1)),(.live false true (flat cR a3.1.2.2.2))] (.t []) [] [(.live true true (flat c3 (jI a0 a0_o a0_n a1 a2 a3))),.un,.un,.un]:=by
 refine cS Tryz.func183 fun cx hcx=>?_
 have hw_0:W (a2 - a1)=a2 - a1:=(aH (n:=a2 - a1) oM oM).trans oM;have hw_1:W ((W (a2 - a1)) - 1)=a2 - a1 - 1:=(aH (n:=(W (a2 - a1)) - 1) oM oM).trans oM;have hw_m:=aSs (n:=a2 - a1) oM;rw [←hw_0] at hw_m;refine eN [.p (show(2:Int)≠0 from by decide)] [0,3,8,9,10,11] [] hcx mJ (oP a0 a0_o a0_n a1 a2 a3 (flat c3 a0) (a0.length) (W (tD (W ((W (a2 - a1)) - 1)) 2))) (tN ((W (tD (W ((W (a2 - a1)) - 1)) 2))+1)+1) ?_;exact aFn a0 a0_o a0_n a1 a2 a3 l0 l3_1_1 l3_1_2_2_1 l3_1_2_2_2 hw hr hab hcx (tN ((W (tD (W ((W (a2 - a1)) - 1)) 2))+1)+1) a0 (W (tD (W ((W (a2 - a1)) - 1)) 2)) (by and_intros<;>(try simp only [Lt])<;>first | omega | assumption | exact hi.2.1 | exact hi.2.2.1 | exact InR.swap hi.2.1 oM oM | exact InR.swap hr oM oM | exact hsd2 | (rw [hsd1];omega)) oM
end Go.Proofs.YtlffahoikfahlaaGreat
