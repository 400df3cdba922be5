/-
  Parts of the proofs of the laws: the executor, what functions of the program compute, and that it is what the statements ask. No premise.
-/
import Derived.Test.YtlffahoikfahlaaGreatVPte4
import Derived.Shelf.SlSortCmp.Xorshift
set_option linter.unusedVariables false
set_option linter.unusedSimpArgs false
set_option maxHeartbeats 4000000
open Int renaming toNat → tN
open Inhabited renaming default → dF
open Go.IntKind renaming wrap → iW
open BitVec renaming ofInt → bO
open Int renaming tdiv → tD
open Int renaming fdiv → fD
open Int renaming tmod → mD
namespace Go.Proofs.YtlffahoikfahlaaGreat
open Go.Proofs Go.Aw Go.RowKit
set_option maxRecDepth 100000
theorem aKi (a0:ZL)(o n:Nat)(a1 a2 a3:Int)(c:sL) :
 ((aT a0 o n a1 a2 a3 c).1=a1/\(aT a0 o n a1 a2 a3 c).2.1=a2)\/((aT a0 o n a1 a2 a3 c).1=a2/\(aT a0 o n a1 a2 a3 c).2.1=a1):=by
 unfold aT;rw [Bool.cond_eq_ite];split
 ·exact .inr ⟨rfl,rfl⟩
 ·exact .inl ⟨rfl,rfl⟩
theorem aSt (a0 v:ZL)(o n:Nat)(a1 a2 a3:Int)(c:sL):aT a0 o n a1 a2 a3 ((c.1.1,c.1.2.1,(v,c.1.2.2.2)),c.2)=aT a0 o n a1 a2 a3 c:=rfl
def dO (a0:ZL)(a0_o a0_n:Nat)(a1 a2 a3 a4:Int)(a5:eG×Int):Zs := ((aT a0 a0_o a0_n (aT a0 a0_o a0_n a1 a2 a4 ((a5.1.1,a5.1.2.1,(a0,a5.1.2.2.2)),a5.2)).1 (aT a0 a0_o a0_n (aT a0 a0_o a0_n a1 a2 a4 ((a5.1.1,a5.1.2.1,(a0,a5.1.2.2.2)),a5.2)).2.1 a3 (aT a0 a0_o a0_n a1 a2 a4 ((a5.1.1,a5.1.2.1,(a0,a5.1.2.2.2)),a5.2)).2.2 ((a5.1.1,a5.1.2.1,(a0,a5.1.2.2.2)),a5.2)).1 (aT a0 a0_o a0_n (aT a0 a0_o a0_n a1 a2 a4 ((a5.1.1,a5.1.2.1,(a0,a5.1.2.2.2)),a5.2)).2.1 a3 (aT a0 a0_o a0_n a1 a2 a4 ((a5.1.1,a5.1.2.1,(a0,a5.1.2.2.2)),a5.2)).2.2 ((a5.1.1,a5.1.2.1,(a0,a5.1.2.2.2)),a5.2)).2.2 ((a5.1.1,a5.1.2.1,(a0,a5.1.2.2.2)),a5.2)).2.1,(aT a0 a0_o a0_n (aT a0 a0_o a0_n a1 a2 a4 ((a5.1.1,a5.1.2.1,(a0,a5.1.2.2.2)),a5.2)).1 (aT a0 a0_o a0_n (aT a0 a0_o a0_n a1 a2 a4 ((a5.1.1,a5.1.2.1,(a0,a5.1.2.2.2)),a5.2)).2.1 a3 (aT a0 a0_o a0_n a1 a2 a4 ((a5.1.1,a5.1.2.1,(a0,a5.1.2.2.2)),a5.2)).2.2 ((a5.1.1,a5.1.2.1,(a0,a5.1.2.2.2)),a5.2)).1 (aT a0 a0_o a0_n (aT a0 a0_o a0_n a1 a2 a4 ((a5.1.1,a5.1.2.1,(a0,a5.1.2.2.2)),a5.2)).2.1 a3 (aT a0 a0_o a0_n a1 a2 a4 ((a5.1.1,a5.1.2.1,(a0,a5.1.2.2.2)),a5.2)).2.2 ((a5.1.1,a5.1.2.1,(a0,a5.1.2.2.2)),a5.2)).2.2 ((a5.1.1,a5.1.2.1,(a0,a5.1.2.2.2)),a5.2)).2.2)
theorem tI (a0:ZL)(a0_o a0_n:Nat)(a1 a2 a3 a4:Int)(a5:eG×Int)(l0:a0.length<=2^63-1)(l5_1_1:a5.1.1.length<=2^63-1)(l5_1_2_2_1:a5.1.2.2.1.length<=2^63-1)(l5_1_2_2_2:a5.1.2.2.2.length<=2^63-1)(hw:a0_o+a0_n<=a0.length/\a0.length<=1048576)(hr:InR a5.1.1.length a0)(hab:0<=a1/\a1 < ↑a0_n/\0<=a2/\a2 < ↑a0_n/\0<=a3/\a3 < ↑a0_n):Con Tryz.prog 202 [(.s 0 (0+a0_o*1) a0_n 1),(iv a1),(iv a2),(iv a3),(.p 1 0),(.f 1000126 [(.a [(.p 2 0),(iv a5.2)])])] [(.live false true (flat c3 a0)),(.live true false [(iv a4)]),(.live false false [(.s 3 0 a5.1.1.length 10),(iv a5.1.2.1),(.s 0 0 a0.length 1),(.s 4 0 a5.1.2.2.2.length 8)]),(.live false true (flat dI a5.1.1)),(.live false true (flat cR a5.1.2.2.2))] (iv (dO a0 a0_o a0_n a1 a2 a3 a4 a5).1) [] [.un,(.live true false [(iv (dO a0 a0_o a0_n a1 a2 a3 a4 a5).2)]),.un,.un,.un]:=by
 refine cS Tryz.func202 fun cx hcx=>?_
 have ho1:=aKi a0 a0_o a0_n a1 a2 a4 ((a5.1.1,a5.1.2.1,(a0,a5.1.2.2.2)),a5.2);have ho2:=aKi a0 a0_o a0_n (aT a0 a0_o a0_n a1 a2 a4 ((a5.1.1,a5.1.2.1,(a0,a5.1.2.2.2)),a5.2)).2.1 a3 (aT a0 a0_o a0_n a1 a2 a4 ((a5.1.1,a5.1.2.1,(a0,a5.1.2.2.2)),a5.2)).2.2 ((a5.1.1,a5.1.2.1,(a0,a5.1.2.2.2)),a5.2)
 try dsimp only [bN]
 try dsimp only
 exact zE [.c [0,1,2,3,4] (tG a0 a0_o a0_n a1 a2 a4 ((a5.1.1,a5.1.2.1,(a0,a5.1.2.2.2)),a5.2) oM oM oM oM oM oM oM),.c [0,1,2,3,4] (tG a0 a0_o a0_n (aT a0 a0_o a0_n a1 a2 a4 ((a5.1.1,a5.1.2.1,(a0,a5.1.2.2.2)),a5.2)).2.1 a3 (aT a0 a0_o a0_n a1 a2 a4 ((a5.1.1,a5.1.2.1,(a0,a5.1.2.2.2)),a5.2)).2.2 ((a5.1.1,a5.1.2.1,(a0,a5.1.2.2.2)),a5.2) oM oM oM oM oM oM oM),.c [0,1,2,3,4] (tG a0 a0_o a0_n (aT a0 a0_o a0_n a1 a2 a4 ((a5.1.1,a5.1.2.1,(a0,a5.1.2.2.2)),a5.2)).1 (aT a0 a0_o a0_n (aT a0 a0_o a0_n a1 a2 a4 ((a5.1.1,a5.1.2.1,(a0,a5.1.2.2.2)),a5.2)).2.1 a3 (aT a0 a0_o a0_n a1 a2 a4 ((a5.1.1,a5.1.2.1,(a0,a5.1.2.2.2)),a5.2)).2.2 ((a5.1.1,a5.1.2.1,(a0,a5.1.2.2.2)),a5.2)).1 (aT a0 a0_o a0_n (aT a0 a0_o a0_n a1 a2 a4 ((a5.1.1,a5.1.2.1,(a0,a5.1.2.2.2)),a5.2)).2.1 a3 (aT a0 a0_o a0_n a1 a2 a4 ((a5.1.1,a5.1.2.1,(a0,a5.1.2.2.2)),a5.2)).2.2 ((a5.1.1,a5.1.2.1,(a0,a5.1.2.2.2)),a5.2)).2.2 ((a5.1.1,a5.1.2.1,(a0,a5.1.2.2.2)),a5.2) oM oM oM oM oM oM oM)] [] [1] [] hcx oK
def dP (a0:ZL)(a0_o a0_n:Nat)(a1 a2:Int)(a3:eG×Int):Zs := ((dO a0 a0_o a0_n (W (a1 - 1)) a1 (W (a1+1)) a2 ((a3.1.1,a3.1.2.1,(a0,a3.1.2.2.2)),a3.2)).1,(dO a0 a0_o a0_n (W (a1 - 1)) a1 (W (a1+1)) a2 ((a3.1.1,a3.1.2.1,(a0,a3.1.2.2.2)),a3.2)).2)
theorem tJ (a0:ZL)(a0_o a0_n:Nat)(a1 a2:Int)(a3:eG×Int)(l0:a0.length<=2^63-1)(l3_1_1:a3.1.1.length<=2^63-1)(l3_1_2_2_1:a3.1.2.2.1.length<=2^63-1)(l3_1_2_2_2:a3.1.2.2.2.length<=2^63-1)(hw:a0_o+a0_n<=a0.length/\a0.length<=1048576)(hr:InR a3.1.1.length a0)(hab:1<=a1/\a1+1 < ↑a0_n):Con Tryz.prog 201 [(.s 0 (0+a0_o*1) a0_n 1),(iv a1),(.p 1 0),(.f 1000126 [(.a [(.p 2 0),(iv a3.2)])])] [(.live false true (flat c3 a0)),(.live true false [(iv a2)]),(.live false false [(.s 3 0 a3.1.1.length 10),(iv a3.1.2.1),(.s 0 0 a0.length 1),(.s 4 0 a3.1.2.2.2.length 8)]),(.live false true (flat dI a3.1.1)),(.live false true (flat cR a3.1.2.2.2))] (iv (dP a0 a0_o a0_n a1 a2 a3).1) [] [.un,(.live true false [(iv (dP a0 a0_o a0_n a1 a2 a3).2)]),.un,.un,.un]:=by
 refine cS Tryz.func201 fun cx hcx=>?_
 have hw_0:W (a1 - 1)=a1 - 1:=(aH (n:=a1 - 1) oM oM).trans oM;have hw_1:W (a1+1)=a1+1:=(aH (n:=a1+1) oM oM).trans oM
 try dsimp only [bN]
 try dsimp only
 exact zE [.c [0,1,2,3,4] (tI a0 a0_o a0_n (W (a1 - 1)) a1 (W (a1+1)) a2 ((a3.1.1,a3.1.2.1,(a0,a3.1.2.2.2)),a3.2) oM oM oM oM oM oM oM)] [] [1] [] hcx oK
theorem bCd (a0:ZL)(o n:Nat)(a1 a2 a3 s:Int)(c:sL):(dO a0 o n a1 a2 a3 s c).1=a1\/(dO a0 o n a1 a2 a3 s c).1=a2\/(dO a0 o n a1 a2 a3 s c).1=a3:=by
 unfold dO;dsimp only;simp only [aSt];rcases aKi a0 o n a1 a2 s c with⟨h1,h2⟩ | ⟨h1,h2⟩<;>rcases aKi a0 o n (aT a0 o n a1 a2 s c).2.1 a3 (aT a0 o n a1 a2 s c).2.2 c with⟨g1,g2⟩ | ⟨g1,g2⟩ <;>
  rcases aKi a0 o n (aT a0 o n a1 a2 s c).1 (aT a0 o n (aT a0 o n a1 a2 s c).2.1 a3 (aT a0 o n a1 a2 s c).2.2 c).1 (aT a0 o n (aT a0 o n a1 a2 s c).2.1 a3 (aT a0 o n a1 a2 s c).2.2 c).2.2 c with⟨k1,k2⟩ | ⟨k1,k2⟩<;>rw [k2]<;>simp_all
theorem bCe (a0:ZL)(o n:Nat)(a1 s:Int)(c:sL):(dP a0 o n a1 s c).1=W (a1 - 1)\/(dP a0 o n a1 s c).1=a1\/(dP a0 o n a1 s c).1=W (a1+1):=bCd _ _ _ _ _ _ _ _
theorem aGf {x:Int} (h:0<=x/\x<=1048576):W (tD x 4)=x / 4:=by rw [Int.tdiv_eq_ediv_of_nonneg h.1,aH oM oM]
theorem aMt {a0:ZL} {o n:Nat} {a1 s:Int} {c:sL} (h:1<=a1/\a1+1 < (n:Int)/\(n:Int)<=1048576):0<=(dP a0 o n a1 s c).1/\(dP a0 o n a1 s c).1 < n:=by
 have hm:=bCe a0 o n a1 s c;rw [aH (n:=a1 - 1) oM oM,aH (n:=a1+1) oM oM] at hm;omega
end Go.Proofs.YtlffahoikfahlaaGreat
namespace Go.Proofs.YtlffahoikfahlaaGreat
open Go.Proofs Go.Aw Go.RowKit
set_option maxRecDepth 100000
def gO (a0:ZL)(a0_o a0_n:Nat)(a1 a2:Int)(a3:eG×Int):=(dP a0 a0_o a0_n (W (a1+(W ((W (tD (W (a2 - a1)) 4))*1)))) 0 ((a3.1.1,a3.1.2.1,(a0,a3.1.2.2.2)),a3.2))
def gP (a0:ZL)(a0_o a0_n:Nat)(a1 a2:Int)(a3:eG×Int):=(dP a0 a0_o a0_n (W (a1+(W ((W (tD (W (a2 - a1)) 4))*2)))) (gO a0 a0_o a0_n a1 a2 a3).2 ((a3.1.1,a3.1.2.1,(a0,a3.1.2.2.2)),a3.2))
def gQ (a0:ZL)(a0_o a0_n:Nat)(a1 a2:Int)(a3:eG×Int):=(dP a0 a0_o a0_n (W (a1+(W ((W (tD (W (a2 - a1)) 4))*3)))) (gP a0 a0_o a0_n a1 a2 a3).2 ((a3.1.1,a3.1.2.1,(a0,a3.1.2.2.2)),a3.2))
def fS (a0:ZL)(a0_o a0_n:Nat)(a1 a2:Int)(a3:eG×Int):=(dO a0 a0_o a0_n (gO a0 a0_o a0_n a1 a2 a3).1 (gP a0 a0_o a0_n a1 a2 a3).1 (gQ a0 a0_o a0_n a1 a2 a3).1 (gQ a0 a0_o a0_n a1 a2 a3).2 ((a3.1.1,a3.1.2.1,(a0,a3.1.2.2.2)),a3.2))
def fT (a0:ZL)(a0_o a0_n:Nat)(a1 a2:Int)(a3:eG×Int):=(dO a0 a0_o a0_n (W (a1+(W ((W (tD (W (a2 - a1)) 4))*1)))) (W (a1+(W ((W (tD (W (a2 - a1)) 4))*2)))) (W (a1+(W ((W (tD (W (a2 - a1)) 4))*3)))) 0 ((a3.1.1,a3.1.2.1,(a0,a3.1.2.2.2)),a3.2))
def bR (a0:ZL)(a0_o a0_n:Nat)(a1 a2:Int)(a3:eG×Int):Zs := (bif (decide (((W (a2 - a1)):Int)≥8))then(bif (decide (((W (a2 - a1)):Int)≥50))then(bif (((fS a0 a0_o a0_n a1 a2 a3).2:Int) == 0)then((fS a0 a0_o a0_n a1 a2 a3).1,1)else(bif (((fS a0 a0_o a0_n a1 a2 a3).2:Int) == 12)then((fS a0 a0_o a0_n a1 a2 a3).1,2)else((fS a0 a0_o a0_n a1 a2 a3).1,0)))else(bif (((fT a0 a0_o a0_n a1 a2 a3).2:Int) == 0)then((fT a0 a0_o a0_n a1 a2 a3).1,1)else(bif (((fT a0 a0_o a0_n a1 a2 a3).2:Int) == 12)then((fT a0 a0_o a0_n a1 a2 a3).1,2)else((fT a0 a0_o a0_n a1 a2 a3).1,0))))else((W (a1+(W ((W (tD (W (a2 - a1)) 4))*2)))),1))
theorem aKj (a0:ZL)(a0_o a0_n:Nat)(a1 a2:Int)(a3:eG×Int)(l0:a0.length<=2^63-1)(l3_1_1:a3.1.1.length<=2^63-1)(l3_1_2_2_1:a3.1.2.2.1.length<=2^63-1)(l3_1_2_2_2:a3.1.2.2.2.length<=2^63-1)(hw:a0_o+a0_n<=a0.length/\a0.length<=1048576)(hr:InR a3.1.1.length a0)(hab:0<=a1/\a1 < a2/\a2<=↑a0_n):Con Tryz.prog 185 [(.s 0 (0+a0_o*1) a0_n 1),(iv a1),(iv a2),(.f 1000126 [(.a [(.p 1 0),(iv a3.2)])])] [(.live false true (flat c3 a0)),(.live false false [(.s 2 0 a3.1.1.length 10),(iv a3.1.2.1),(.s 0 0 a0.length 1),(.s 3 0 a3.1.2.2.2.length 8)]),(.live false true (flat dI a3.1.1)),(.live false true (flat cR a3.1.2.2.2))] (.t (k2 (bR a0 a0_o a0_n a1 a2 a3))) []:=by
 refine cS Tryz.func185 fun cx hcx=>?_
 have hw_0:W (a2 - a1)=a2 - a1:=(aH (n:=a2 - a1) oM oM).trans oM;have hq4:=aGf (x:=W (a2 - a1)) oM;have hc_1:(W (a1+(W ((W (tD (W (a2 - a1)) 4))*1))))=a1+(a2 - a1) / 4*1:=by rw [hq4,hw_0];exact(aH (by rw [aH oM oM];omega) (by rw [aH oM oM];omega)).trans (by rw [aH oM oM])
 have hc_2:(W (a1+(W ((W (tD (W (a2 - a1)) 4))*2))))=a1+(a2 - a1) / 4*2:=by rw [hq4,hw_0];exact(aH (by rw [aH oM oM];omega) (by rw [aH oM oM];omega)).trans (by rw [aH oM oM])
 have hc_3:(W (a1+(W ((W (tD (W (a2 - a1)) 4))*3))))=a1+(a2 - a1) / 4*3:=by rw [hq4,hw_0];exact(aH (by rw [aH oM oM];omega) (by rw [aH oM oM];omega)).trans (by rw [aH oM oM])
 let t0:SL:=[.p (show(4:Int)≠0 from by decide),.p (show(4:Int)≠0 from by decide),.p (show(4:Int)≠0 from by decide)];rw [bR];cases h0:(decide (((W (a2 - a1)):Int)≥8))
 case true=>
  have q0:=eS h0;let t1:SL:=t0++[.d h0];cases h1:(decide (((W (a2 - a1)):Int)≥50))
  case true=>
   have q1:=eS h1
   try have hb1:0<=(gO a0 a0_o a0_n a1 a2 a3).1/\(gO a0 a0_o a0_n a1 a2 a3).1 < ↑a0_n:=(fun _=>aMt oM) h1
   try have hb2:0<=(gP a0 a0_o a0_n a1 a2 a3).1/\(gP a0 a0_o a0_n a1 a2 a3).1 < ↑a0_n:=(fun _=>aMt oM) h1
   try have hb3:0<=(gQ a0 a0_o a0_n a1 a2 a3).1/\(gQ a0 a0_o a0_n a1 a2 a3).1 < ↑a0_n:=(fun _=>aMt oM) h1
   let t2:SL:=t1++[.d h1,.c [0,4,1,2,3] (tJ a0 a0_o a0_n (W (a1+(W ((W (tD (W (a2 - a1)) 4))*1)))) 0 ((a3.1.1,a3.1.2.1,(a0,a3.1.2.2.2)),a3.2) oM oM oM oM oM oM oM),.c [0,4,1,2,3] (tJ a0 a0_o a0_n (W (a1+(W ((W (tD (W (a2 - a1)) 4))*2)))) (gO a0 a0_o a0_n a1 a2 a3).2 ((a3.1.1,a3.1.2.1,(a0,a3.1.2.2.2)),a3.2) oM oM oM oM oM oM oM),.c [0,4,1,2,3] (tJ a0 a0_o a0_n (W (a1+(W ((W (tD (W (a2 - a1)) 4))*3)))) (gP a0 a0_o a0_n a1 a2 a3).2 ((a3.1.1,a3.1.2.1,(a0,a3.1.2.2.2)),a3.2) oM oM oM oM oM oM oM),.c [0,4,1,2,3] (tI a0 a0_o a0_n (gO a0 a0_o a0_n a1 a2 a3).1 (gP a0 a0_o a0_n a1 a2 a3).1 (gQ a0 a0_o a0_n a1 a2 a3).1 (gQ a0 a0_o a0_n a1 a2 a3).2 ((a3.1.1,a3.1.2.1,(a0,a3.1.2.2.2)),a3.2) oM oM oM oM oM oM oM)];cases h2:(((fS a0 a0_o a0_n a1 a2 a3).2:Int) == 0)
   case true=>exact rT (t2++[.d h2]) hcx
   let t3:SL:=t2++[.d h2];cases h3:(((fS a0 a0_o a0_n a1 a2 a3).2:Int) == 12)
   case true=>exact rT (t3++[.d h3]) hcx
   exact rT (t3++[.d h3]) hcx
  have q1:=iF h1;let t2:SL:=t1++[.d h1,.c [0,4,1,2,3] (tI a0 a0_o a0_n (W (a1+(W ((W (tD (W (a2 - a1)) 4))*1)))) (W (a1+(W ((W (tD (W (a2 - a1)) 4))*2)))) (W (a1+(W ((W (tD (W (a2 - a1)) 4))*3)))) 0 ((a3.1.1,a3.1.2.1,(a0,a3.1.2.2.2)),a3.2) oM oM oM oM oM oM oM)];cases h2:(((fT a0 a0_o a0_n a1 a2 a3).2:Int) == 0)
  case true=>exact rT (t2++[.d h2]) hcx
  let t3:SL:=t2++[.d h2];cases h3:(((fT a0 a0_o a0_n a1 a2 a3).2:Int) == 12)
  case true=>exact rT (t3++[.d h3]) hcx
  exact rT (t3++[.d h3]) hcx
 exact rT (t0++[.d h0,.T]) hcx
def aA3:Go.Shelf.Ren:=⟨fun | 15=>161 | 28=>190 | 29=>191 | n=>n,fun | 39=>122 | 3=>3 | 53=>176 | 55=>128 | 4=>4 | 5=>5 | 9=>9 | n=>n,fun | n=>n⟩
theorem aV0:Go.Proofs.SlLaysF0.n15 Tryz.prog aA3:={
 mixed:=by kernel_rfl
 f15:=Tryz.func161.trans (congrArg some oK)
 f28:=Tryz.func190.trans (congrArg some oK)
 f29:=Tryz.func191.trans (congrArg some oK)
 t3:=Tryz.underlying3
 a3:=Tryz.isAgg3
 z3:=Tryz.sizeOf3
 v3:=Tryz.zeroValue3
 t4:=Tryz.underlying4
 a4:=Tryz.isAgg4
 z4:=Tryz.sizeOf4
 v4:=Tryz.zeroValue4
 t5:=Tryz.underlying5
 a5:=Tryz.isAgg5
 z5:=Tryz.sizeOf5
 v5:=Tryz.zeroValue5
 t9:=Tryz.underlying9
 a9:=Tryz.isAgg9
 z9:=Tryz.sizeOf9
 v9:=Tryz.zeroValue9
 t39:=Tryz.underlying122
 a39:=Tryz.isAgg122
 z39:=Tryz.sizeOf122
 v39:=Tryz.zeroValue122
 t53:=Tryz.underlying176
 a53:=Tryz.isAgg176
 z53:=Tryz.sizeOf176
 v53:=Tryz.zeroValue176
 t55:=Tryz.underlying128
 a55:=Tryz.isAgg128
 z55:=Tryz.sizeOf128
 v55:=Tryz.zeroValue128 }
def aKk (n:Int):Int:=(Lib.bitLen n.toNat:Nat)
theorem bCf (a0:Int)(hn:0<=a0/\a0<=18446744073709551615):Con Tryz.prog 161 [.v (.int .u64 a0)] [] (iv (aKk a0)) []:=by
 refine⟨ent Tryz.func161 oK rfl,fun ρ W vs hr hb hpl hap hfz=>?_⟩
 match vs,hr with
 | [],hr=>simp [Rels] at hr
 | _::_::_,hr=>simp [Rels] at hr
 | [v1],hr =>
 simp only [Rels,and_true,Rel] at hr;subst hr;have h:=Any.bits_Len (SlLaysF0.n15.bits (ρ:=aA3) aV0) a0 W hn.1 hn.2;refine h.mono fun e w' ⟨he,hw⟩=>?_
 subst hw;have un1:∀m j,fQ m ([]:List BK) [] j=.un:=fun m j=>by unfold fQ;simp
 exact⟨ρ,_,he,fun _ _=>rfl,by simp only [iv,Rel];rfl,Kept.refl _ _,fun j=>by rw [un1];trivial,fun j=>by rw [un1];trivial,fun i j b n b' n' _ o1=>by rw [un1] at o1;exact o1.elim,ρ.le_refl,fun b o hb=>⟨(hfz b o hb).1,fun j m o1=>by rw [un1] at o1;exact o1.elim,.inl hb⟩⟩
def fA (a0:Int):Int := (iW .u64 (1*2 ^ (min (tN (aKk (iW .u64 a0))) 64)))
theorem bEz (a0:Int)(hn:0<=a0/\a0<=1048576):Con Tryz.prog 199 [(iv a0)] [] (.v (.int .u64 (fA a0))) []:=by
 refine cS Tryz.func199 fun cx hcx=>?_
 exact rT [.c [] (bCf (iW .u64 a0)  (by rw [IntKind.wrap_u64];omega)),.p (show 0<=((aKk (iW .u64 a0)):Int) from by first | omega | exact Int.natCast_nonneg _)] hcx
def eR (a0:Int):Zs := ((iW .u64 ((bO 64 (iW .u64 ((bO 64 (iW .u64 ((bO 64 a0 ^^^ bO 64 (iW .u64 (a0*2 ^ (min (tN 13) 64)))).toNat:Int)) ^^^ bO 64 (fD (iW .u64 ((bO 64 a0 ^^^ bO 64 (iW .u64 (a0*2 ^ (min (tN 13) 64)))).toNat:Int)) (2 ^ (min (tN 7) 64)))).toNat:Int)) ^^^ bO 64 (iW .u64 ((iW .u64 ((bO 64 (iW .u64 ((bO 64 a0 ^^^ bO 64 (iW .u64 (a0*2 ^ (min (tN 13) 64)))).toNat:Int)) ^^^ bO 64 (fD (iW .u64 ((bO 64 a0 ^^^ bO 64 (iW .u64 (a0*2 ^ (min (tN 13) 64)))).toNat:Int)) (2 ^ (min (tN 7) 64)))).toNat:Int))*2 ^ (min (tN 17) 64)))).toNat:Int)),(iW .u64 ((bO 64 (iW .u64 ((bO 64 (iW .u64 ((bO 64 a0 ^^^ bO 64 (iW .u64 (a0*2 ^ (min (tN 13) 64)))).toNat:Int)) ^^^ bO 64 (fD (iW .u64 ((bO 64 a0 ^^^ bO 64 (iW .u64 (a0*2 ^ (min (tN 13) 64)))).toNat:Int)) (2 ^ (min (tN 7) 64)))).toNat:Int)) ^^^ bO 64 (iW .u64 ((iW .u64 ((bO 64 (iW .u64 ((bO 64 a0 ^^^ bO 64 (iW .u64 (a0*2 ^ (min (tN 13) 64)))).toNat:Int)) ^^^ bO 64 (fD (iW .u64 ((bO 64 a0 ^^^ bO 64 (iW .u64 (a0*2 ^ (min (tN 13) 64)))).toNat:Int)) (2 ^ (min (tN 7) 64)))).toNat:Int))*2 ^ (min (tN 17) 64)))).toNat:Int)))
theorem bE0 (a0:Int):Con Tryz.prog 200 [(.p 0 0)] [(.live true false [(.v (.int .u64 a0))])] (.v (.int .u64 (eR a0).1)) [] [(.live true false [(.v (.int .u64 (eR a0).2))])]:=by
 refine cS Tryz.func200 fun cx hcx=>?_
 try dsimp only [bN]
 try dsimp only
 exact zE [.p (show 0<=(13:Int) from by decide),.p (show 0<=(7:Int) from by decide),.p (show 0<=(17:Int) from by decide)] [] [0] [] hcx oK
theorem aSu {n:Nat} (h:n<=1048576):fA (n:Int)=((1 <<< Go.Sort.bitsLen n:Nat):Int):=by
 unfold fA aKk;have hk:Go.Sort.bitsLen n<=62:=(Go.Sort.bitsLen_le_iff n 62).2 oM;rw [show iW .u64 (n:Int)=n by rw [IntKind.wrap_u64];omega,iB,iB,bitLen_eq _ oM,Nat.min_eq_left oM,Int.one_mul];exact wrap_two_pow _ hk
theorem aSv {n:Nat} (h1:1<=n)(h:n<=1048576):1<=1 <<< Go.Sort.bitsLen n/\1 <<< Go.Sort.bitsLen n<=2*n:=by
 have hp:1<=Go.Sort.bitsLen n:=by
  rcases Nat.eq_zero_or_pos (Go.Sort.bitsLen n) with h0 | h0
  ·have:=(Go.Sort.bitsLen_le_iff n 0).1 oM;omega
  ·exact h0
 have h2:¬n < 2 ^ (Go.Sort.bitsLen n - 1):=fun h3=>by
  have:=(Go.Sort.bitsLen_le_iff n (Go.Sort.bitsLen n - 1)).2 h3;omega
 rw [Nat.one_shiftLeft];obtain⟨k,hk⟩:∃k,Go.Sort.bitsLen n=k+1:=⟨Go.Sort.bitsLen n - 1,by omega⟩;rw [hk] at h2 ⊢;rw [show k+1 - 1=k by omega] at h2;rw [Nat.pow_succ];have:1<=2 ^ k:=Nat.one_le_two_pow;omega
def aP6 (x M:Int):Int:=W (iW .u64 ((bO 64 x &&& bO 64 (iW .u64 (M - 1))).toNat:Int))
theorem aKl (x:Int) {M:Nat} (h:1<=M/\M<=1099511627776):aP6 x (M:Int)=(((bO 64 x).toNat &&& (M - 1):Nat):Int):=by
 unfold aP6;have e:(bO 64 (iW .u64 ((M:Int) - 1))).toNat=M - 1:=by
  rw [IntKind.wrap_u64,BitVec.toNat_ofInt];omega
 have hle:(bO 64 x).toNat &&& (M - 1)<=M - 1:=Nat.and_le_right;rw [BitVec.toNat_and,e,show iW .u64 ((((bO 64 x).toNat &&& (M - 1):Nat)):Int)=(((bO 64 x).toNat &&& (M - 1):Nat):Int) by rw [IntKind.wrap_u64];omega];exact aH oM oM
theorem aSw (x:Int) {n:Int} (h:1<=n/\n<=1048576):0<=aP6 x (fA n)/\aP6 x (fA n) < 2*n:=by
 obtain⟨n,rfl⟩:∃k:Nat,n=k:=⟨n.toNat,by omega⟩;have h2:=aSv (n:=n) oM oM;rw [aSu oM,aKl x ⟨h2.1,by omega⟩];have hle:(bO 64 x).toNat &&& (1 <<< Go.Sort.bitsLen n - 1)<=1 <<< Go.Sort.bitsLen n - 1:=Nat.and_le_right;omega
noncomputable def jV:=aU [1,1,0,1,1,1] [] (aV Tryz.f184) []
def kW (a0:ZL)(a0_o a0_n:Nat)(a1 a2:Int)(a3:eG×Int)(v1c:List SV)(v1n:Nat)(v2 v3:Int):LS:=⟨gU 67 [(0,(.s 0 (0+a0_o*1) a0_n 1)),(1,(iv a1)),(8,(iv (W (a2 - a1)))),(9,(.p 4 0)),(10,(.v (.int .u64 (fA (W (a2 - a1)))))),(11,(iv v2))],[(.live true true v1c),(.live false false [(.s 2 0 a3.1.1.length 10),(iv a3.1.2.1),(.s 0 0 v1n 1),(.s 3 0 a3.1.2.2.2.length 8)]),(.live false true (flat dI a3.1.1)),(.live false true (flat cR a3.1.2.2.2)),(.live true false [(.v (.int .u64 v3))])]⟩
def iQ (a0:ZL)(a0_o a0_n:Nat)(a1 a2:Int)(a3:eG×Int):ZL×Int×Int->(ZL×Int×Int)⊕ZL | (v1,v2,v3) => (bif (decide ((v2:Int)<=(W ((W (a1+(W ((W (tD (W (a2 - a1)) 4))*2))))+1))))then(bif (decide (((W (iW .u64 ((bO 64 (eR v3).1 &&& bO 64 (iW .u64 ((fA (W (a2 - a1))) - 1))).toNat:Int))):Int)≥(W (a2 - a1))))then(.inl (((v1.set (a0_o+tN v2) (v1.getD (a0_o+tN (W (a1+(W ((W (iW .u64 ((bO 64 (eR v3).1 &&& bO 64 (iW .u64 ((fA (W (a2 - a1))) - 1))).toNat:Int))) - (W (a2 - a1))))))) dF)).set (a0_o+tN (W (a1+(W ((W (iW .u64 ((bO 64 (eR v3).1 &&& bO 64 (iW .u64 ((fA (W (a2 - a1))) - 1))).toNat:Int))) - (W (a2 - a1))))))) (v1.getD (a0_o+tN v2) dF)),(v2+1),(eR v3).2))else(.inl (((v1.set (a0_o+tN v2) (v1.getD (a0_o+tN (W (a1+(W (iW .u64 ((bO 64 (eR v3).1 &&& bO 64 (iW .u64 ((fA (W (a2 - a1))) - 1))).toNat:Int)))))) dF)).set (a0_o+tN (W (a1+(W (iW .u64 ((bO 64 (eR v3).1 &&& bO 64 (iW .u64 ((fA (W (a2 - a1))) - 1))).toNat:Int)))))) (v1.getD (a0_o+tN v2) dF)),(v2+1),(eR v3).2)))else(.inr v1))
theorem aFo (a0:ZL)(a0_o a0_n:Nat)(a1 a2:Int)(a3:eG×Int)(l0:a0.length<=2^63-1)(l3_1_1:a3.1.1.length<=2^63-1)(l3_1_2_2_1:a3.1.2.2.1.length<=2^63-1)(l3_1_2_2_2:a3.1.2.2.2.length<=2^63-1)(hw:a0_o+a0_n<=a0.length/\a0.length<=1048576)(hr:InR a3.1.1.length a0)(hab:0<=a1/\a1<=a2/\a2<=↑a0_n) {cx:Cx} (hcx:cx.base=4):∀(n:Nat) (v1:ZL) (v2 v3:Int),(v1.length=a0.length)/\(InR a3.1.1.length v1)/\(8<=a2 - a1)/\(a1+(a2 - a1) / 4*2 - 1<=v2)/\(v2<=a1+(a2 - a1) / 4*2+2)->tN (a1+(a2 - a1) / 4*2+2 - v2) < n->gG Tryz.f184 cx (.t []) [] [(.live true true (flat c3 (aG (iQ a0 a0_o a0_n a1 a2 a3) n (v1,v2,v3)))),.un,.un,.un] (.l jV.1 n::jV.2) (kW a0 a0_o a0_n a1 a2 a3 (flat c3 v1) v1.length v2 v3):=by
 intro n
 induction n with|zero=>intro v1 v2 v3 hi hn;exact absurd hn (dX _)|succ n ih=>?_
 intro v1 v2 v3 hi hn;refine aN ?_;have hw_0:W (a2 - a1)=a2 - a1:=(aH (n:=a2 - a1) oM oM).trans oM;have hq4:=aGf (x:=W (a2 - a1)) oM;have hc_2:(W (a1+(W ((W (tD (W (a2 - a1)) 4))*2))))=a1+(a2 - a1) / 4*2:=by rw [hq4,hw_0];exact(aH (by rw [aH oM oM];omega) (by rw [aH oM oM];omega)).trans (by rw [aH oM oM])
 have hc_4:=aH (n:=(W (a1+(W ((W (tD (W (a2 - a1)) 4))*2))))+1) oM oM;have hw_i:=aH (n:=v2+1) oM oM;have hot:0<=(W (iW .u64 ((bO 64 (eR v3).1 &&& bO 64 (iW .u64 ((fA (W (a2 - a1))) - 1))).toNat:Int)))/\(W (iW .u64 ((bO 64 (eR v3).1 &&& bO 64 (iW .u64 ((fA (W (a2 - a1))) - 1))).toNat:Int))) < 2*(W (a2 - a1)):=aSw (eR v3).1 (n:=W (a2 - a1)) oM;have hwo1:=aH (n:=(W (iW .u64 ((bO 64 (eR v3).1 &&& bO 64 (iW .u64 ((fA (W (a2 - a1))) - 1))).toNat:Int))) - (W (a2 - a1))) oM oM;let t0:SL:=[.p (show(4:Int)≠0 from by decide)];rw [aZ,iQ];cases h0:(decide ((v2:Int)<=(W ((W (a1+(W ((W (tD (W (a2 - a1)) 4))*2))))+1))))
 case true=>
  have q0:=eS h0;let t1:SL:=t0++[.d h0,.c [4] (bE0 v3)];cases h1:(decide (((W (iW .u64 ((bO 64 (eR v3).1 &&& bO 64 (iW .u64 ((fA (W (a2 - a1))) - 1))).toNat:Int))):Int)≥(W (a2 - a1))))
  case true=>
   have q1:=eS h1
   try have hwo2:=(fun _=>aH (n:=a1+(W ((W (iW .u64 ((bO 64 (eR v3).1 &&& bO 64 (iW .u64 ((fA (W (a2 - a1))) - 1))).toNat:Int))) - (W (a2 - a1))))) oM oM) h1
   try have hwo3:=(fun _=>aH (n:=a1+(W (iW .u64 ((bO 64 (eR v3).1 &&& bO 64 (iW .u64 ((fA (W (a2 - a1))) - 1))).toNat:Int)))) oM oM) h1
   refine bA n (t1++[.d h1,.i (W (a1+(W ((W (iW .u64 ((bO 64 (eR v3).1 &&& bO 64 (iW .u64 ((fA (W (a2 - a1))) - 1))).toNat:Int))) - (W (a2 - a1)))))) a0_n,cL aF v1 a0_o (W (a1+(W ((W (iW .u64 ((bO 64 (eR v3).1 &&& bO 64 (iW .u64 ((fA (W (a2 - a1))) - 1))).toNat:Int))) - (W (a2 - a1)))))) 0 1,.i v2 a0_n,cL aF v1 a0_o v2 0 1,.i v2 a0_n,.p (show((0+a0_o*1+tN v2*1)+1<=(flat c3 v1).length) from(aY aF oL (o:=0) (Nb rfl))),.i (W (a1+(W ((W (iW .u64 ((bO 64 (eR v3).1 &&& bO 64 (iW .u64 ((fA (W (a2 - a1))) - 1))).toNat:Int))) - (W (a2 - a1)))))) a0_n,.p (show((0+a0_o*1+tN (W (a1+(W ((W (iW .u64 ((bO 64 (eR v3).1 &&& bO 64 (iW .u64 ((fA (W (a2 - a1))) - 1))).toNat:Int))) - (W (a2 - a1))))))*1)+1<=(splice (flat c3 v1) (0+a0_o*1+tN v2*1) [(iv (v1.getD (a0_o+tN (W (a1+(W ((W (iW .u64 ((bO 64 (eR v3).1 &&& bO 64 (iW .u64 ((fA (W (a2 - a1))) - 1))).toNat:Int))) - (W (a2 - a1))))))) dF))]).length) from(by rw [show(splice (flat c3 v1) (0+a0_o*1+tN v2*1) [(iv (v1.getD (a0_o+tN (W (a1+(W ((W (iW .u64 ((bO 64 (eR v3).1 &&& bO 64 (iW .u64 ((fA (W (a2 - a1))) - 1))).toNat:Int))) - (W (a2 - a1))))))) dF))])=flat c3 (v1.set (a0_o+tN v2) (v1.getD (a0_o+tN (W (a1+(W ((W (iW .u64 ((bO 64 (eR v3).1 &&& bO 64 (iW .u64 ((fA (W (a2 - a1))) - 1))).toNat:Int))) - (W (a2 - a1))))))) dF)) from(aO aF oL (o:=0) (d:=dF) (Nb rfl) rfl)];exact aY aF oL (o:=0) (Nb rfl)))]) [0,1,8,9,10,11] [4] hcx jV (kW a0 a0_o a0_n a1 a2 a3 (splice (splice (flat c3 v1) (0+a0_o*1+tN v2*1) [(iv (v1.getD (a0_o+tN (W (a1+(W ((W (iW .u64 ((bO 64 (eR v3).1 &&& bO 64 (iW .u64 ((fA (W (a2 - a1))) - 1))).toNat:Int))) - (W (a2 - a1))))))) dF))]) (0+a0_o*1+tN (W (a1+(W ((W (iW .u64 ((bO 64 (eR v3).1 &&& bO 64 (iW .u64 ((fA (W (a2 - a1))) - 1))).toNat:Int))) - (W (a2 - a1))))))*1) [(iv (v1.getD (a0_o+tN v2) dF))]) (v1.length) (W (v2+1)) ((eR v3).2)) ?_;have z0:(W (v2+1))=(v2+1):=aH oM oM;have z1:(splice (splice (flat c3 v1) (0+a0_o*1+tN v2*1) [(iv (v1.getD (a0_o+tN (W (a1+(W ((W (iW .u64 ((bO 64 (eR v3).1 &&& bO 64 (iW .u64 ((fA (W (a2 - a1))) - 1))).toNat:Int))) - (W (a2 - a1))))))) dF))]) (0+a0_o*1+tN (W (a1+(W ((W (iW .u64 ((bO 64 (eR v3).1 &&& bO 64 (iW .u64 ((fA (W (a2 - a1))) - 1))).toNat:Int))) - (W (a2 - a1))))))*1) [(iv (v1.getD (a0_o+tN v2) dF))])=flat c3 ((v1.set (a0_o+tN v2) (v1.getD (a0_o+tN (W (a1+(W ((W (iW .u64 ((bO 64 (eR v3).1 &&& bO 64 (iW .u64 ((fA (W (a2 - a1))) - 1))).toNat:Int))) - (W (a2 - a1))))))) dF)).set (a0_o+tN (W (a1+(W ((W (iW .u64 ((bO 64 (eR v3).1 &&& bO 64 (iW .u64 ((fA (W (a2 - a1))) - 1))).toNat:Int))) - (W (a2 - a1))))))) (v1.getD (a0_o+tN v2) dF)):=(by rw [show(splice (flat c3 v1) (0+a0_o*1+tN v2*1) [(iv (v1.getD (a0_o+tN (W (a1+(W ((W (iW .u64 ((bO 64 (eR v3).1 &&& bO 64 (iW .u64 ((fA (W (a2 - a1))) - 1))).toNat:Int))) - (W (a2 - a1))))))) dF))])=flat c3 (v1.set (a0_o+tN v2) (v1.getD (a0_o+tN (W (a1+(W ((W (iW .u64 ((bO 64 (eR v3).1 &&& bO 64 (iW .u64 ((fA (W (a2 - a1))) - 1))).toNat:Int))) - (W (a2 - a1))))))) dF)) from(aO aF oL (o:=0) (d:=dF) (Nb rfl) rfl)];exact aO aF oL (o:=0) (d:=dF) (Nb rfl) rfl);have z2:v1.length=((v1.set (a0_o+tN v2) (v1.getD (a0_o+tN (W (a1+(W ((W (iW .u64 ((bO 64 (eR v3).1 &&& bO 64 (iW .u64 ((fA (W (a2 - a1))) - 1))).toNat:Int))) - (W (a2 - a1))))))) dF)).set (a0_o+tN (W (a1+(W ((W (iW .u64 ((bO 64 (eR v3).1 &&& bO 64 (iW .u64 ((fA (W (a2 - a1))) - 1))).toNat:Int))) - (W (a2 - a1))))))) (v1.getD (a0_o+tN v2) dF)).length:=by simp
   rw [z0,z1,z2];exact ih _ _ _ (by and_intros<;>(try simp only [Lt])<;>first | omega | assumption | exact hi.2.1 | exact hi.2.2.1 | exact InR.swap hi.2.1 oM oM | exact InR.swap hr oM oM) oM
  have q1:=iF h1
  try have hwo2:=(fun _=>aH (n:=a1+(W ((W (iW .u64 ((bO 64 (eR v3).1 &&& bO 64 (iW .u64 ((fA (W (a2 - a1))) - 1))).toNat:Int))) - (W (a2 - a1))))) oM oM) h1
  try have hwo3:=(fun _=>aH (n:=a1+(W (iW .u64 ((bO 64 (eR v3).1 &&& bO 64 (iW .u64 ((fA (W (a2 - a1))) - 1))).toNat:Int)))) oM oM) h1
  refine bA n (t1++[.d h1,.i (W (a1+(W (iW .u64 ((bO 64 (eR v3).1 &&& bO 64 (iW .u64 ((fA (W (a2 - a1))) - 1))).toNat:Int))))) a0_n,cL aF v1 a0_o (W (a1+(W (iW .u64 ((bO 64 (eR v3).1 &&& bO 64 (iW .u64 ((fA (W (a2 - a1))) - 1))).toNat:Int))))) 0 1,.i v2 a0_n,cL aF v1 a0_o v2 0 1,.i v2 a0_n,.p (show((0+a0_o*1+tN v2*1)+1<=(flat c3 v1).length) from(aY aF oL (o:=0) (Nb rfl))),.i (W (a1+(W (iW .u64 ((bO 64 (eR v3).1 &&& bO 64 (iW .u64 ((fA (W (a2 - a1))) - 1))).toNat:Int))))) a0_n,.p (show((0+a0_o*1+tN (W (a1+(W (iW .u64 ((bO 64 (eR v3).1 &&& bO 64 (iW .u64 ((fA (W (a2 - a1))) - 1))).toNat:Int)))))*1)+1<=(splice (flat c3 v1) (0+a0_o*1+tN v2*1) [(iv (v1.getD (a0_o+tN (W (a1+(W (iW .u64 ((bO 64 (eR v3).1 &&& bO 64 (iW .u64 ((fA (W (a2 - a1))) - 1))).toNat:Int)))))) dF))]).length) from(by rw [show(splice (flat c3 v1) (0+a0_o*1+tN v2*1) [(iv (v1.getD (a0_o+tN (W (a1+(W (iW .u64 ((bO 64 (eR v3).1 &&& bO 64 (iW .u64 ((fA (W (a2 - a1))) - 1))).toNat:Int)))))) dF))])=flat c3 (v1.set (a0_o+tN v2) (v1.getD (a0_o+tN (W (a1+(W (iW .u64 ((bO 64 (eR v3).1 &&& bO 64 (iW .u64 ((fA (W (a2 - a1))) - 1))).toNat:Int)))))) dF)) from(aO aF oL (o:=0) (d:=dF) (Nb rfl) rfl)];exact aY aF oL (o:=0) (Nb rfl)))]) [0,1,8,9,10,11] [4] hcx jV (kW a0 a0_o a0_n a1 a2 a3 (splice (splice (flat c3 v1) (0+a0_o*1+tN v2*1) [(iv (v1.getD (a0_o+tN (W (a1+(W (iW .u64 ((bO 64 (eR v3).1 &&& bO 64 (iW .u64 ((fA (W (a2 - a1))) - 1))).toNat:Int)))))) dF))]) (0+a0_o*1+tN (W (a1+(W (iW .u64 ((bO 64 (eR v3).1 &&& bO 64 (iW .u64 ((fA (W (a2 - a1))) - 1))).toNat:Int)))))*1) [(iv (v1.getD (a0_o+tN v2) dF))]) (v1.length) (W (v2+1)) ((eR v3).2)) ?_;have z0:(W (v2+1))=(v2+1):=aH oM oM;have z1:(splice (splice (flat c3 v1) (0+a0_o*1+tN v2*1) [(iv (v1.getD (a0_o+tN (W (a1+(W (iW .u64 ((bO 64 (eR v3).1 &&& bO 64 (iW .u64 ((fA (W (a2 - a1))) - 1))).toNat:Int)))))) dF))]) (0+a0_o*1+tN (W (a1+(W (iW .u64 ((bO 64 (eR v3).1 &&& bO 64 (iW .u64 ((fA (W (a2 - a1))) - 1))).toNat:Int)))))*1) [(iv (v1.getD (a0_o+tN v2) dF))])=flat c3 ((v1.set (a0_o+tN v2) (v1.getD (a0_o+tN (W (a1+(W (iW .u64 ((bO 64 (eR v3).1 &&& bO 64 (iW .u64 ((fA (W (a2 - a1))) - 1))).toNat:Int)))))) dF)).set (a0_o+tN (W (a1+(W (iW .u64 ((bO 64 (eR v3).1 &&& bO 64 (iW .u64 ((fA (W (a2 - a1))) - 1))).toNat:Int)))))) (v1.getD (a0_o+tN v2) dF)):=(by rw [show(splice (flat c3 v1) (0+a0_o*1+tN v2*1) [(iv (v1.getD (a0_o+tN (W (a1+(W (iW .u64 ((bO 64 (eR v3).1 &&& bO 64 (iW .u64 ((fA (W (a2 - a1))) - 1))).toNat:Int)))))) dF))])=flat c3 (v1.set (a0_o+tN v2) (v1.getD (a0_o+tN (W (a1+(W (iW .u64 ((bO 64 (eR v3).1 &&& bO 64 (iW .u64 ((fA (W (a2 - a1))) - 1))).toNat:Int)))))) dF)) from(aO aF oL (o:=0) (d:=dF) (Nb rfl) rfl)];exact aO aF oL (o:=0) (d:=dF) (Nb rfl) rfl);have z2:v1.length=((v1.set (a0_o+tN v2) (v1.getD (a0_o+tN (W (a1+(W (iW .u64 ((bO 64 (eR v3).1 &&& bO 64 (iW .u64 ((fA (W (a2 - a1))) - 1))).toNat:Int)))))) dF)).set (a0_o+tN (W (a1+(W (iW .u64 ((bO 64 (eR v3).1 &&& bO 64 (iW .u64 ((fA (W (a2 - a1))) - 1))).toNat:Int)))))) (v1.getD (a0_o+tN v2) dF)).length:=by simp
  rw [z0,z1,z2];exact ih _ _ _ (by and_intros<;>(try simp only [Lt])<;>first | omega | assumption | exact hi.2.1 | exact hi.2.2.1 | exact InR.swap hi.2.1 oM oM | exact InR.swap hr oM oM) oM
 try dsimp only [bN]
 try dsimp only
 exact rtn (t0++[.d h0]) [] [0] [] hcx oK
def fJ (a0:ZL)(a0_o a0_n:Nat)(a1 a2:Int)(a3:eG×Int):ZL := (bif (decide (((W (a2 - a1)):Int)≥8))then(aG (iQ a0 a0_o a0_n a1 a2 a3) (tN (a1+(a2 - a1) / 4*2+2 - (W ((W (a1+(W ((W (tD (W (a2 - a1)) 4))*2)))) - 1)))+1) (a0,(W ((W (a1+(W ((W (tD (W (a2 - a1)) 4))*2)))) - 1)),(iW .u64 (W (a2 - a1)))))else a0)
theorem aKm (a0:ZL)(a0_o a0_n:Nat)(a1 a2:Int)(a3:eG×Int)(l0:a0.length<=2^63-1)(l3_1_1:a3.1.1.length<=2^63-1)(l3_1_2_2_1:a3.1.2.2.1.length<=2^63-1)(l3_1_2_2_2:a3.1.2.2.2.length<=2^63-1)(hw:a0_o+a0_n<=a0.length/\a0.length<=1048576)(hr:InR a3.1.1.length a0)(hab:0<=a1/\a1<=a2/\a2<=↑a0_n):Con Tryz.prog 184 [(.s 0 (0+a0_o*1) a0_n 1),(iv a1),(iv a2),(.f 1000126 [(.a [(.p 1 0),(iv a3.2)])])] [(.live true true (flat c3 a0)),(.live false false [(.s 2 0 a3.1.1.length 10),(iv a3.1.2.1),(.s 0 0 a0.length 1),(.s 3 0 a3.1.2.2.2.length 8)]),(.live false true (flat dI a3.1.1)),(.live false true (flat cR a3.1.2.2.2))] (.t []) [] [(.live true true (flat c3 (fJ a0 a0_o a0_n a1 a2 a3))),.un,.un,.un]:=by
 refine cS Tryz.func184 fun cx hcx=>?_
 have hw_0:W (a2 - a1)=a2 - a1:=(aH (n:=a2 - a1) oM oM).trans oM;have hq4:=aGf (x:=W (a2 - a1)) oM;have hc_2:(W (a1+(W ((W (tD (W (a2 - a1)) 4))*2))))=a1+(a2 - a1) / 4*2:=by rw [hq4,hw_0];exact(aH (by rw [aH oM oM];omega) (by rw [aH oM oM];omega)).trans (by rw [aH oM oM])
 have hc_3:=aH (n:=(W (a1+(W ((W (tD (W (a2 - a1)) 4))*2)))) - 1) oM oM;rw [fJ];cases h0:(decide (((W (a2 - a1)):Int)≥8))
 case true=>have q0:=eS h0;refine eN [.d h0,.c [] (bEz (W (a2 - a1))  oM),.p (show(4:Int)≠0 from by decide)] [0,1,8,9,10,11] [4] hcx jV (kW a0 a0_o a0_n a1 a2 a3 (flat c3 a0) (a0.length) (W ((W (a1+(W ((W (tD (W (a2 - a1)) 4))*2)))) - 1)) (iW .u64 (W (a2 - a1)))) (tN (a1+(a2 - a1) / 4*2+2 - (W ((W (a1+(W ((W (tD (W (a2 - a1)) 4))*2)))) - 1)))+1) ?_;exact aFo a0 a0_o a0_n a1 a2 a3 l0 l3_1_1 l3_1_2_2_1 l3_1_2_2_2 hw hr hab hcx (tN (a1+(a2 - a1) / 4*2+2 - (W ((W (a1+(W ((W (tD (W (a2 - a1)) 4))*2)))) - 1)))+1) a0 (W ((W (a1+(W ((W (tD (W (a2 - a1)) 4))*2)))) - 1)) (iW .u64 (W (a2 - a1))) (by and_intros<;>(try simp only [Lt])<;>first | omega | assumption | exact hi.2.1 | exact hi.2.2.1 | exact InR.swap hi.2.1 oM oM | exact InR.swap hr oM oM) oM
 try dsimp only [bN]
 try dsimp only
 exact rtn [.d h0] [] [0] [] hcx oK
section
variable {o n : Nat} {l l0 : ZL} {c : sL}
theorem pZ (lt:Int->Int->Bool)(a:Nat):∀(j:Nat) (d:Array Int),(Go.Sort.insInner lt a j d).size=d.size
 | 0,d=>rfl
 | j+1,d=>by
  rw [Go.Sort.insInner];split
  ·rw [pZ lt a j,tH]
  ·rfl
theorem aOd (hl:o+n<=l.length)(hn:n<=1048576) {a:Nat} {a2:Int}:∀(m:Nat) (d:Array Int) (j:Nat) (w:Int),d.size=n->j < n->j - a < m ->
 aG (eT l0 o n (a:Int) a2 c) m (wp l o d,w,(j:Int))=.inl (wp l o (Go.Sort.insInner (bH c) a j d),w+1)
 | 0,_,_,_,_,_,h=>absurd h (dX _)
 | m+1,d,0,w,hd,hj,hm=>by
  refine aL ?_;simp only [eT];rw [cA oM,cond_false];rfl
 | m+1,d,j+1,w,hd,hj,hm=>by
  have hl':o+d.size<=l.length:=by omega
  have e1:W (((j+1:Nat):Int) - 1)=((j:Nat):Int):=wN oM oM;rw [Go.Sort.insInner];by_cases h1:j+1 > a
  ·have e:eT l0 o n (a:Int) a2 c (wp l o d,w,((j+1:Nat):Int))=bif bH c d[j+1]! d[j]! then .inl (wp l o (Go.Sort.swp d (j+1) j),w,(j:Int)) else .inr (.inl (wp l o d,w+1)):=by
    simp only [eT,e1,iB,aOb,aOc];rw [bX oM,cond_true,gL hl' (i:=j+1) (j:=j) oM oM,cT hl' (i:=j+1) oM,cT hl' (i:=j) oM]
   rw [bX h1,Bool.true_and];cases q:bH c d[j+1]! d[j]!
   case true=>rw [q,cond_true] at e;rw [aK e];exact aOd hl hn m _ j w (by rw [tH];exact hd) oM oM
   rw [q,cond_false] at e;exact aL e
  ·rw [cA h1,Bool.false_and];refine aL ?_;simp only [eT];rw [cA oM,cond_false];rfl
theorem aOe (hl:o+n<=l.length)(hn:n<=1048576) {a b:Nat} (hb:b<=n):∀(m:Nat) (d:Array Int) (i:Nat),d.size=n->b - i < m ->
 aG (eU l0 o n (a:Int) (b:Int) c) m (wp l o d,(i:Int))=wp l o (Go.Sort.insOuter (bH c) a b i d)
 | 0,_,_,_,h=>absurd h (dX _)
 | m+1,d,i,hd,hm=>by
  rw [Go.Sort.insOuter];by_cases h1:i < b
  ·rw [if_pos h1];have e:eU l0 o n (a:Int) (b:Int) c (wp l o d,(i:Int))=aG (eT l0 o n (a:Int) (b:Int) c) (tN ((i:Int) - a)+1) (wp l o d,(i:Int),(i:Int)):=by
    simp only [eU];rw [bX oM,cond_true]
   rw [aK (e.trans (aOd hl hn _ d i _ hd oM oM))];exact aOe hl hn hb m _ (i+1) (by rw [pZ];exact hd) oM
  ·rw [if_neg h1];refine aL ?_;simp only [eU];rw [cA oM,cond_false]
theorem aSx {d:Array Int} (hl:o+n<=l.length)(hn:n<=1048576) {a b:Nat} (hb:b<=n)(ha:a<=n)(hd:d.size=n):jG (wp l o d) o n (a:Int) (b:Int) c=wp l o (Go.Sort.insertionSort (bH c) d a b):=by
 unfold jG;rw [wN (n:=a+1) oM oM];exact aOe hl hn hb _ d (a+1) hd oM
theorem aXm (hl:o+n<=l.length)(hn:n<=1048576) {a1 a2:Int}:∀(m:Nat) (d:Array Int) (i j:Nat),d.size=n->i<=n->j < n->j - i < m ->
 aG (gK l0 o n a1 a2 c) m (wp l o d,(i:Int),(j:Int))=wp l o (Go.Sort.reverseLoop i j d)
 | 0,_,_,_,_,_,_,h=>absurd h (dX _)
 | m+1,d,i,j,hd,hi,hj,hm=>by
  have hl':o+d.size<=l.length:=by omega
  rw [Go.Sort.reverseLoop];by_cases h1:i < j
  ·rw [if_pos h1];have e:gK l0 o n a1 a2 c (wp l o d,(i:Int),(j:Int))=.inl (wp l o (Go.Sort.swp d i j),((i+1:Nat):Int),((j - 1:Nat):Int)):=by
    simp only [gK,iB];rw [bX oM,cond_true,gL hl' (i:=i) (j:=j) oM oM,wN (x:=(j:Int) - 1) (n:=j - 1) oM oM];rfl
   rw [aK e];exact aXm hl hn m _ (i+1) (j - 1) (by rw [tH];exact hd) oM oM oM
  ·rw [if_neg h1];refine aL ?_;simp only [gK];rw [cA oM,cond_false]
theorem aSy {d:Array Int} (hl:o+n<=l.length)(hn:n<=1048576) {a b:Nat} (hab:a < b)(hb:b<=n)(hd:d.size=n):fI (wp l o d) o n (a:Int) (b:Int) c=wp l o (Go.Sort.reverseRange d a b):=by
 unfold fI;rw [wN (x:=(b:Int) - 1) (n:=b - 1) oM oM];exact aXm hl hn _ d a (b - 1) hd oM oM oM
theorem aSz (hl:o+n<=l.length)(hn:n<=1048576) {a:Nat} {a2:Int}:∀(k m:Nat) (d:Array Int),d.size=n->a+k<=n->k < m ->
 aG (gM l0 o n (a:Int) a2 c) m (wp l o d,(k:Int) - 1)=wp l o (Go.Sort.heapPop (bH c) a k d)/\(Go.Sort.heapPop (bH c) a k d).size=n
 | 0,m+1,d,hd,_,_=>by
  refine⟨aL ?_,hd⟩;simp only [gM];rw [cA oM,cond_false];rfl
 | k+1,m+1,d,hd,hk,hm=>by
  have hl':o+d.size<=l.length:=by omega
  have hs:=aXk (c:=((c.1.1,c.1.2.1,(wp l o (Go.Sort.swp d a (a+k)),c.1.2.2.2)),c.2)) (l:=l) (d:=Go.Sort.swp d a (a+k)) (hi:=k) (first:=a) (lo:=0) hl hn oM oM (by rw [tH];exact hd);have e:gM l0 o n (a:Int) a2 c (wp l o d,((k+1:Nat):Int) - 1)=.inl (wp l o (Go.Sort.siftDown (bH c) k a 0 (Go.Sort.swp d a (a+k))),(k:Int) - 1):=by
   rw [show((k+1:Nat):Int) - 1=(k:Int) by omega];simp only [gM,iB,wN (x:=(a:Int)+(k:Int)) (n:=a+k) oM oM];rw [bX oM,cond_true,gL hl' (i:=a) (j:=a+k) oM oM,aH (n:=(k:Int) - 1) oM oM];exact congrArg (fun z=>Sum.inl (z,(k:Int) - 1)) hs.1
  rw [aK e];exact aSz hl hn k m _ hs.2 oM oM
theorem aS0 (hl:o+n<=l.length)(hn:n<=1048576) {a b:Nat} (hab:a<=b)(hb:b<=n):∀(k m:Nat) (d:Array Int),d.size=n->k<=1048576->k < m ->
 aG (gN l0 o n (a:Int) (b:Int) c) m (wp l o d,(k:Int) - 1)=wp l o (Go.Sort.heapPop (bH c) a (b - a) (Go.Sort.heapBuild (bH c) (b - a) a k d))/\(Go.Sort.heapPop (bH c) a (b - a) (Go.Sort.heapBuild (bH c) (b - a) a k d)).size=n
 | 0,m+1,d,hd,_,_=>by
  have e2:W ((W ((b:Int) - (a:Int))) - 1)=((b - a:Nat):Int) - 1:=by rw [wN (x:=(b:Int) - (a:Int)) (n:=b - a) oM oM];exact aH oM oM
  have h1:=aSz (l:=l) (l0:=l0) (c:=c) (a:=a) (a2:=(b:Int)) hl hn (b - a) (tN (((b - a:Nat):Int) - 1+1)+1) d hd oM oM;refine⟨aL ?_,h1.2⟩;simp only [gN,e2];rw [cA oM,cond_false,h1.1];rfl
 | k+1,m+1,d,hd,hk,hm=>by
  have hs:=aXk (c:=((c.1.1,c.1.2.1,(wp l o d,c.1.2.2.2)),c.2)) (l:=l) (d:=d) (hi:=b - a) (first:=a) (lo:=k) hl hn oM oM hd;have e:gN l0 o n (a:Int) (b:Int) c (wp l o d,((k+1:Nat):Int) - 1)=.inl (wp l o (Go.Sort.siftDown (bH c) (b - a) a k d),(k:Int) - 1):=by
   rw [show((k+1:Nat):Int) - 1=(k:Int) by omega];simp only [gN,wN (x:=(b:Int) - (a:Int)) (n:=b - a) oM oM];rw [bX oM,cond_true,aH (n:=(k:Int) - 1) oM oM];exact congrArg (fun z=>Sum.inl (z,(k:Int) - 1)) hs.1
  rw [aK e];exact aS0 hl hn hab hb k m _ hs.2 oM oM
theorem aS1 {d:Array Int} (hl:o+n<=l.length)(hn:n<=1048576) {a b:Nat} (hab:a<=b)(hb:b<=n)(hd:d.size=n):jI (wp l o d) o n (a:Int) (b:Int) c=wp l o (Go.Sort.heapSort (bH c) d a b):=by
 unfold jI;have hm:W (tD (W ((W ((b:Int) - (a:Int))) - 1)) 2)=(((b - a - 1) / 2+1:Nat):Int) - 1:=by
  rw [wN (x:=(b:Int) - (a:Int)) (n:=b - a) oM oM];rcases aSs (n:=((b - a:Nat):Int)) oM with h | ⟨h,h2⟩
  ·by_cases h0:b - a=0
   ·rw [h0];decide
   ·rw [h];omega
  ·rw [h2];omega
 rw [hm];exact(aS0 (l:=l) hl hn hab hb ((b - a - 1) / 2+1) _ d hd oM oM).1
end
end Go.Proofs.YtlffahoikfahlaaGreat
namespace Go.Proofs.YtlffahoikfahlaaGreat
open Go.Proofs Go.Aw Go.RowKit
set_option maxRecDepth 100000
section
open Go.Sort
variable {o n : Nat} {l l0 : ZL} {c : sL} {a3 b : Int} {a : Nat} {d : Array Int}
theorem gV (c:sL)(v:ZL)(x y:Int):decide (iC ((c.1.1,c.1.2.1,(v,c.1.2.2.2)),c.2) x y < 0)=bH c x y:=rfl
theorem qA (p:Int->Bool)(d:Array Int)(i j:Nat)(h:1<=j):scanDown p d i j=if i<=j&&p d[j]! then scanDown p d i (j - 1) else j:=by
 obtain⟨j,rfl⟩:∃k,j=k+1:=⟨j - 1,by omega⟩;rw [scanDown];rfl
theorem aOf (hl:o+n<=l.length)(hn:n<=1048576)(hd:d.size=n)(ha:a < n) {j:Nat} (hj:j < n):∀(m i:Nat),i<=1048577->j+2 - i < m ->
 aG (eV l0 o n (a:Int) b a3 c) m (wp l o d,(i:Int),(j:Int))=(aG (cY l0 o n (a:Int) b a3 c) (tN ((j:Int)+2 - (scanUp (fun x=>bH c x d[a]!) d j i:Nat))+1) (wp l o d,((scanUp (fun x=>bH c x d[a]!) d j i:Nat):Int),(j:Int)))
 | 0,_,_,h=>absurd h (dX _)
 | m+1,i,hi,hm=>by
  have hl':o+d.size<=l.length:=by omega
  rw [scanUp];by_cases h1:i<=j
  ·rw [bX h1,Bool.true_and];have e:eV l0 o n (a:Int) b a3 c (wp l o d,(i:Int),(j:Int))=bif (bH c d[i]! d[a]!) then .inl (wp l o d,((i+1:Nat):Int),(j:Int)) else .inr (aG (cY l0 o n (a:Int) b a3 c) (tN ((j:Int)+2 - (i:Int))+1) (wp l o d,(i:Int),(j:Int))):=by
    simp only [eV,iB,gV];rw [bX (show(i:Int)<=(j:Int) by omega),cond_true,cT hl' (i:=i) oM,cT hl' (i:=a) oM];rfl
   cases q:bH c d[i]! d[a]!
   case true=>rw [q] at e;rw [aK (e.trans (by rfl)),if_pos (show(true)=true from rfl)];exact aOf hl hn hd ha hj m (i+1) oM oM
   rw [q] at e;rw [if_neg (show ¬(false)=true from by decide)];exact aL (e.trans (by rfl))
  ·rw [cA h1,Bool.false_and,if_neg Bool.false_ne_true];refine aL ?_;simp only [eV];rw [cA (show ¬(i:Int)<=(j:Int) by omega),cond_false]
theorem aOg (hl:o+n<=l.length)(hn:n<=1048576)(hd:d.size=n)(ha:a < n) {i:Nat} (hi:1<=i/\i<=n+1):∀(m j:Nat),j < n->i<=j+2->j+2 - i < m ->
 aG (cY l0 o n (a:Int) b a3 c) m (wp l o d,(i:Int),(j:Int))=(if i > scanDown (fun x=>!bH c x d[a]!) d i j then(((scanDown (fun x=>!bH c x d[a]!) d i j:Nat):Int),true,wp l o (swp d (scanDown (fun x=>!bH c x d[a]!) d i j) a)) else aG (bK l0 o n (a:Int) b a3 c) (tN (((scanDown (fun x=>!bH c x d[a]!) d i j - 1:Nat):Int)+2 - ((i+1:Nat):Int))+1) (wp l o (swp d i (scanDown (fun x=>!bH c x d[a]!) d i j)),((i+1:Nat):Int),((scanDown (fun x=>!bH c x d[a]!) d i j - 1:Nat):Int)))
 | 0,_,_,_,h=>absurd h (dX _)
 | m+1,j,hj,hij,hm=>by
  have hl':o+d.size<=l.length:=by omega
  by_cases h1:i<=j
  ·rw [qA _ _ _ _ oM,bX h1,Bool.true_and];have e1:W ((j:Int) - 1)=((j - 1:Nat):Int):=wN oM oM;have e2:W ((i:Int)+1)=((i+1:Nat):Int):=wN oM oM;cases q:bH c d[j]! d[a]!
   case false=>
    rw [if_pos (show(!false)=true from rfl)];have e:cY l0 o n (a:Int) b a3 c (wp l o d,(i:Int),(j:Int))=.inl (wp l o d,(i:Int),((j - 1:Nat):Int)):=by
     simp only [cY,iB,gV,e1];rw [bX (show(i:Int)<=(j:Int) by omega),cond_true,cT hl' (i:=j) oM,cT hl' (i:=a) oM];rw [q];rfl
    rw [aK e];exact aOg hl hn hd ha hi m (j - 1) oM oM oM
   rw [if_neg (show ¬(!true)=true from by decide),if_neg oM];refine aL ?_;simp only [cY,iB,gV,e1,e2];rw [bX (show(i:Int)<=(j:Int) by omega),cond_true,gL hl' (i:=i) (j:=j) oM oM,gL hl' (i:=j) (j:=a) oM oM,cT hl' (i:=j) oM,cT hl' (i:=a) oM,cA (show ¬(i:Int) > (j:Int) by omega),cond_false,q];rfl
  ·have hsd:scanDown (fun x=>!bH c x d[a]!) d i j=j:=by
    cases j with
    | zero=>rfl
    | succ j=>rw [scanDown,cA h1];rfl
   rw [hsd,if_pos oM];refine aL ?_;simp only [cY,iB];rw [cA (show ¬(i:Int)<=(j:Int) by omega),cond_false,bX (show(i:Int) > (j:Int) by omega),cond_true,gL hl' (i:=j) (j:=a) oM oM]
theorem aOh (hl:o+n<=l.length)(hn:n<=1048576)(hd:d.size=n)(ha:a < n) {j:Nat} (hj:j < n):∀(m i:Nat),i<=1048577->j+2 - i < m ->
 aG (eC l0 o n (a:Int) b a3 c) m (wp l o d,(i:Int),(j:Int))=(aG (cX l0 o n (a:Int) b a3 c) (tN ((j:Int)+2 - (scanUp (fun x=>bH c x d[a]!) d j i:Nat))+1) (wp l o d,((scanUp (fun x=>bH c x d[a]!) d j i:Nat):Int),(j:Int)))
 | 0,_,_,h=>absurd h (dX _)
 | m+1,i,hi,hm=>by
  have hl':o+d.size<=l.length:=by omega
  rw [scanUp];by_cases h1:i<=j
  ·rw [bX h1,Bool.true_and];have e:eC l0 o n (a:Int) b a3 c (wp l o d,(i:Int),(j:Int))=bif (bH c d[i]! d[a]!) then .inl (wp l o d,((i+1:Nat):Int),(j:Int)) else .inr (aG (cX l0 o n (a:Int) b a3 c) (tN ((j:Int)+2 - (i:Int))+1) (wp l o d,(i:Int),(j:Int))):=by
    simp only [eC,iB,gV];rw [bX (show(i:Int)<=(j:Int) by omega),cond_true,cT hl' (i:=i) oM,cT hl' (i:=a) oM];rfl
   cases q:bH c d[i]! d[a]!
   case true=>rw [q] at e;rw [aK (e.trans (by rfl)),if_pos (show(true)=true from rfl)];exact aOh hl hn hd ha hj m (i+1) oM oM
   rw [q] at e;rw [if_neg (show ¬(false)=true from by decide)];exact aL (e.trans (by rfl))
  ·rw [cA h1,Bool.false_and,if_neg Bool.false_ne_true];refine aL ?_;simp only [eC];rw [cA (show ¬(i:Int)<=(j:Int) by omega),cond_false]
theorem aOi (hl:o+n<=l.length)(hn:n<=1048576)(hd:d.size=n)(ha:a < n) {i:Nat} (hi:1<=i/\i<=n+1):∀(m j:Nat),j < n->i<=j+2->j+2 - i < m ->
 aG (cX l0 o n (a:Int) b a3 c) m (wp l o d,(i:Int),(j:Int))=(if i > scanDown (fun x=>!bH c x d[a]!) d i j then .inr (((scanDown (fun x=>!bH c x d[a]!) d i j:Nat):Int),false,wp l o (swp d (scanDown (fun x=>!bH c x d[a]!) d i j) a)) else .inl (wp l o (swp d i (scanDown (fun x=>!bH c x d[a]!) d i j)),((i+1:Nat):Int),((scanDown (fun x=>!bH c x d[a]!) d i j - 1:Nat):Int)))
 | 0,_,_,_,h=>absurd h (dX _)
 | m+1,j,hj,hij,hm=>by
  have hl':o+d.size<=l.length:=by omega
  by_cases h1:i<=j
  ·rw [qA _ _ _ _ oM,bX h1,Bool.true_and];have e1:W ((j:Int) - 1)=((j - 1:Nat):Int):=wN oM oM;have e2:W ((i:Int)+1)=((i+1:Nat):Int):=wN oM oM;cases q:bH c d[j]! d[a]!
   case false=>
    rw [if_pos (show(!false)=true from rfl)];have e:cX l0 o n (a:Int) b a3 c (wp l o d,(i:Int),(j:Int))=.inl (wp l o d,(i:Int),((j - 1:Nat):Int)):=by
     simp only [cX,iB,gV,e1];rw [bX (show(i:Int)<=(j:Int) by omega),cond_true,cT hl' (i:=j) oM,cT hl' (i:=a) oM];rw [q];rfl
    rw [aK e];exact aOi hl hn hd ha hi m (j - 1) oM oM oM
   rw [if_neg (show ¬(!true)=true from by decide),if_neg oM];refine aL ?_;simp only [cX,iB,gV,e1,e2];rw [bX (show(i:Int)<=(j:Int) by omega),cond_true,gL hl' (i:=i) (j:=j) oM oM,gL hl' (i:=j) (j:=a) oM oM,cT hl' (i:=j) oM,cT hl' (i:=a) oM,cA (show ¬(i:Int) > (j:Int) by omega),cond_false,q];rfl
  ·have hsd:scanDown (fun x=>!bH c x d[a]!) d i j=j:=by
    cases j with
    | zero=>rfl
    | succ j=>rw [scanDown,cA h1];rfl
   rw [hsd,if_pos oM];refine aL ?_;simp only [cX,iB];rw [cA (show ¬(i:Int)<=(j:Int) by omega),cond_false,bX (show(i:Int) > (j:Int) by omega),cond_true,gL hl' (i:=j) (j:=a) oM oM]
theorem aOj (hl:o+n<=l.length)(hn:n<=1048576)(ha:a < n):∀(m:Nat) (d:Array Int) (i j:Nat),d.size=n->a < i->i<=j+2->j < n->j+2 - i < m ->
 aG (bK l0 o n (a:Int) b a3 c) m (wp l o d,(i:Int),(j:Int))=(((partLoop (bH c) a i j d).1:Int),false,wp l o (swp (partLoop (bH c) a i j d).2 (partLoop (bH c) a i j d).1 a))
 | 0,_,_,_,_,_,_,_,h=>absurd h (dX _)
 | m+1,d,i,j,hd,hai,hij,hj,hm=>by
  have h3:=aOh (l:=l) (l0:=l0) (c:=c) (a3:=a3) (b:=b) (a:=a) hl hn hd ha hj (tN ((j:Int)+2 - (i:Int))+1) i oM oM;have g1:=scanUp_ge (fun x=>bH c x d[a]!) d j i;have g2:scanUp (fun x=>bH c x d[a]!) d j i<=j+2:=by
   have:=(scanUp_spec (fun x=>bH c x d[a]!) d j _ i rfl).2.1;by_cases h:i<=j+1
   ·omega
   ·rw [scanUp,cA oM];simp;omega
  have h4:=aOi (l:=l) (l0:=l0) (c:=c) (a3:=a3) (b:=b) (a:=a) hl hn hd ha (i:=scanUp (fun x=>bH c x d[a]!) d j i) oM (tN ((j:Int)+2 - (scanUp (fun x=>bH c x d[a]!) d j i:Nat))+1) j hj oM oM;have g3:=scanDown_le (fun x=>!bH c x d[a]!) d (scanUp (fun x=>bH c x d[a]!) d j i) j;have e:bK l0 o n (a:Int) b a3 c (wp l o d,(i:Int),(j:Int))=aG (eC l0 o n (a:Int) b a3 c) (tN ((j:Int)+2 - (i:Int))+1) (wp l o d,(i:Int),(j:Int)):=rfl;rw [partLoop_eq];by_cases h:scanUp (fun x=>bH c x d[a]!) d j i > scanDown (fun x=>!bH c x d[a]!) d (scanUp (fun x=>bH c x d[a]!) d j i) j
  ·rw [if_pos h] at h4 ⊢;exact aL (e.trans (h3.trans h4))
  ·rw [if_neg h] at h4 ⊢;rw [aK (e.trans (h3.trans h4))];exact aOj hl hn ha m _ _ _ (by rw [Go.Sort.size_swp];exact hd) oM oM oM oM
theorem aS2 (hl:o+n<=l.length)(hn:n<=1048576)(hd:d.size=n) {b p:Nat} (hap:a<=p)(hpb:p < b)(hb:b<=n) :
 aJ (wp l o d) o n (a:Int) (b:Int) (p:Int) c=(((partition (bH c) d a b p).1:Int),(partition (bH c) d a b p).2.1,wp l o (partition (bH c) d a b p).2.2):=by
 have hl':o+d.size<=l.length:=by omega
 have hds:(swp d a p).size=n:=by rw [Go.Sort.size_swp];exact hd
 unfold aJ partition;dsimp only;rw [iB,iB,gL hl' (i:=a) (j:=p) oM oM,wN (x:=(a:Int)+1) (n:=a+1) oM oM,wN (x:=(b:Int) - 1) (n:=b - 1) oM oM];generalize swp d a p=d at hds ⊢;rw [aOf (l:=l) (a:=a) hl hn hds oM (j:=b - 1) oM _ (a+1) oM oM];have g1:=scanUp_ge (fun x=>bH c x d[a]!) d (b - 1) (a+1);have g2:=(scanUp_spec (fun x=>bH c x d[a]!) d (b - 1) _ (a+1) rfl).2.1 oM;rw [aOg (l:=l) (a:=a) hl hn hds oM (i:=scanUp (fun x=>bH c x d[a]!) d (b - 1) (a+1)) oM _ (b - 1) oM oM oM];have g3:=scanDown_le (fun x=>!bH c x d[a]!) d (scanUp (fun x=>bH c x d[a]!) d (b - 1) (a+1)) (b - 1);generalize scanUp (fun x=>bH c x d[a]!) d (b - 1) (a+1)=i at g1 g2 g3 ⊢;by_cases h:i > scanDown (fun x=>!bH c x d[a]!) d i (b - 1)
 ·rw [if_pos h,if_pos h]
 ·rw [if_neg h,if_neg h,aOj hl hn oM _ _ _ _ (by rw [Go.Sort.size_swp];exact hds) oM oM oM oM]
theorem aOk (hl:o+n<=l.length)(hn:n<=1048576)(hd:d.size=n)(ha:a < n) {j:Nat} (hj:j < n):∀(m i:Nat),i<=1048577->j+2 - i < m ->
 aG (eW l0 o n (a:Int) b a3 c) m (wp l o d,(i:Int),(j:Int))=(aG (dH l0 o n (a:Int) b a3 c) (tN ((j:Int)+2 - (scanUp (fun x=>!bH c d[a]! x) d j i:Nat))+1) (wp l o d,((scanUp (fun x=>!bH c d[a]! x) d j i:Nat):Int),(j:Int)))
 | 0,_,_,h=>absurd h (dX _)
 | m+1,i,hi,hm=>by
  have hl':o+d.size<=l.length:=by omega
  rw [scanUp];by_cases h1:i<=j
  ·rw [bX h1,Bool.true_and];have e:eW l0 o n (a:Int) b a3 c (wp l o d,(i:Int),(j:Int))=bif (!bH c d[a]! d[i]!) then .inl (wp l o d,((i+1:Nat):Int),(j:Int)) else .inr (aG (dH l0 o n (a:Int) b a3 c) (tN ((j:Int)+2 - (i:Int))+1) (wp l o d,(i:Int),(j:Int))):=by
    simp only [eW,iB,gV];rw [bX (show(i:Int)<=(j:Int) by omega),cond_true,cT hl' (i:=i) oM,cT hl' (i:=a) oM];rfl
   cases q:bH c d[a]! d[i]!
   case false=>rw [q] at e;rw [aK (e.trans (by rfl)),if_pos (show(!false)=true from rfl)];exact aOk hl hn hd ha hj m (i+1) oM oM
   rw [q] at e;rw [if_neg (show ¬(!true)=true from by decide)];exact aL (e.trans (by rfl))
  ·rw [cA h1,Bool.false_and,if_neg Bool.false_ne_true];refine aL ?_;simp only [eW];rw [cA (show ¬(i:Int)<=(j:Int) by omega),cond_false]
theorem aOl (hl:o+n<=l.length)(hn:n<=1048576)(hd:d.size=n)(ha:a < n) {i:Nat} (hi:1<=i/\i<=n+1):∀(m j:Nat),j < n->i<=j+2->j+2 - i < m ->
 aG (dH l0 o n (a:Int) b a3 c) m (wp l o d,(i:Int),(j:Int))=(if i > scanDown (fun x=>bH c d[a]! x) d i j then .inr ((i:Int),wp l o d) else .inl (wp l o (swp d i (scanDown (fun x=>bH c d[a]! x) d i j)),((i+1:Nat):Int),((scanDown (fun x=>bH c d[a]! x) d i j - 1:Nat):Int)))
 | 0,_,_,_,h=>absurd h (dX _)
 | m+1,j,hj,hij,hm=>by
  have hl':o+d.size<=l.length:=by omega
  by_cases h1:i<=j
  ·rw [qA _ _ _ _ oM,bX h1,Bool.true_and];have e1:W ((j:Int) - 1)=((j - 1:Nat):Int):=wN oM oM;have e2:W ((i:Int)+1)=((i+1:Nat):Int):=wN oM oM;cases q:bH c d[a]! d[j]!
   case true=>
    rw [if_pos (show(true)=true from rfl)];have e:dH l0 o n (a:Int) b a3 c (wp l o d,(i:Int),(j:Int))=.inl (wp l o d,(i:Int),((j - 1:Nat):Int)):=by
     simp only [dH,iB,gV,e1];rw [bX (show(i:Int)<=(j:Int) by omega),cond_true,cT hl' (i:=j) oM,cT hl' (i:=a) oM];rw [q];rfl
    rw [aK e];exact aOl hl hn hd ha hi m (j - 1) oM oM oM
   rw [if_neg (show ¬(false)=true from by decide),if_neg oM];refine aL ?_;simp only [dH,iB,gV,e1,e2];rw [bX (show(i:Int)<=(j:Int) by omega),cond_true,gL hl' (i:=i) (j:=j) oM oM,cT hl' (i:=j) oM,cT hl' (i:=a) oM,cA (show ¬(i:Int) > (j:Int) by omega),cond_false,q];rfl
  ·have hsd:scanDown (fun x=>bH c d[a]! x) d i j=j:=by
    cases j with
    | zero=>rfl
    | succ j=>rw [scanDown,cA h1];rfl
   rw [hsd,if_pos oM];refine aL ?_;simp only [dH,iB];rw [cA (show ¬(i:Int)<=(j:Int) by omega),cond_false,bX (show(i:Int) > (j:Int) by omega),cond_true]
theorem aOm (hl:o+n<=l.length)(hn:n<=1048576)(ha:a < n):∀(m:Nat) (d:Array Int) (i j:Nat),d.size=n->a < i->i<=j+2->j < n->j+2 - i < m ->
 aG (cZ l0 o n (a:Int) b a3 c) m (wp l o d,(i:Int),(j:Int))=(((partEqLoop (bH c) a i j d).1:Int),wp l o (partEqLoop (bH c) a i j d).2)
 | 0,_,_,_,_,_,_,_,h=>absurd h (dX _)
 | m+1,d,i,j,hd,hai,hij,hj,hm=>by
  have h3:=aOk (l:=l) (l0:=l0) (c:=c) (a3:=a3) (b:=b) (a:=a) hl hn hd ha hj (tN ((j:Int)+2 - (i:Int))+1) i oM oM;have g1:=scanUp_ge (fun x=>!bH c d[a]! x) d j i;have g2:scanUp (fun x=>!bH c d[a]! x) d j i<=j+2:=by
   have:=(scanUp_spec (fun x=>!bH c d[a]! x) d j _ i rfl).2.1;by_cases h:i<=j+1
   ·omega
   ·rw [scanUp,cA oM];simp;omega
  have h4:=aOl (l:=l) (l0:=l0) (c:=c) (a3:=a3) (b:=b) (a:=a) hl hn hd ha (i:=scanUp (fun x=>!bH c d[a]! x) d j i) oM (tN ((j:Int)+2 - (scanUp (fun x=>!bH c d[a]! x) d j i:Nat))+1) j hj oM oM;have g3:=scanDown_le (fun x=>bH c d[a]! x) d (scanUp (fun x=>!bH c d[a]! x) d j i) j;have e:cZ l0 o n (a:Int) b a3 c (wp l o d,(i:Int),(j:Int))=aG (eW l0 o n (a:Int) b a3 c) (tN ((j:Int)+2 - (i:Int))+1) (wp l o d,(i:Int),(j:Int)):=rfl;rw [partEqLoop_eq];by_cases h:scanUp (fun x=>!bH c d[a]! x) d j i > scanDown (fun x=>bH c d[a]! x) d (scanUp (fun x=>!bH c d[a]! x) d j i) j
  ·rw [if_pos h] at h4 ⊢;exact aL (e.trans (h3.trans h4))
  ·rw [if_neg h] at h4 ⊢;rw [aK (e.trans (h3.trans h4))];exact aOm hl hn ha m _ _ _ (by rw [Go.Sort.size_swp];exact hd) oM oM oM oM
theorem aS3 (hl:o+n<=l.length)(hn:n<=1048576)(hd:d.size=n) {b p:Nat} (hap:a<=p)(hpb:p < b)(hb:b<=n) :
 dA (wp l o d) o n (a:Int) (b:Int) (p:Int) c=(((partitionEqual (bH c) d a b p).1:Int),wp l o (partitionEqual (bH c) d a b p).2):=by
 have hl':o+d.size<=l.length:=by omega
 unfold dA partitionEqual;rw [iB,iB,gL hl' (i:=a) (j:=p) oM oM,wN (x:=(a:Int)+1) (n:=a+1) oM oM,wN (x:=(b:Int) - 1) (n:=b - 1) oM oM];exact aOm hl hn oM _ _ _ _ (by rw [Go.Sort.size_swp];exact hd) oM oM oM oM
end
end Go.Proofs.YtlffahoikfahlaaGreat
namespace Go.Proofs.YtlffahoikfahlaaGreat
open Go.Proofs Go.Aw Go.RowKit
set_option maxRecDepth 100000
section
open Go.Sort
variable {o n a b : Nat} {l l0 : ZL} {c : sL} {d : Array Int}
theorem tK (lt:Int->Int->Bool):∀(j:Nat) (d:Array Int),(shiftDown lt j d).size=d.size
 | 0,d=>rfl
 | j+1,d=>by
  rw [shiftDown];split
  ·rfl
  ·rw [tK lt j,Go.Sort.size_swp]
theorem yH (lt:Int->Int->Bool)(b:Nat):∀(m j:Nat) (d:Array Int),b - j<=m->(shiftUp lt b j d).size=d.size
 | 0,j,d,h=>by rw [shiftUp,if_neg oM]
 | m+1,j,d,h=>by
  rw [shiftUp];split
  ·split
   ·rfl
   ·rw [yH lt b m _ _ oM,Go.Sort.size_swp]
  ·rfl
theorem yI (lt:Int->Int->Bool)(a i:Nat)(d:Array Int):(fixDown lt a i d).size=d.size:=by
 unfold fixDown;split
 ·exact tK _ _ _
 ·rfl
theorem aDx (lt:Int->Int->Bool)(b i:Nat)(d:Array Int):(fixUp lt b i d).size=d.size:=by
 unfold fixUp;split
 ·exact yH _ _ _ _ _ (Nat.le_refl _)
 ·rfl
theorem aOn (hl:o+n<=l.length)(hn:n<=1048576)(hb:b<=n) {i s:Int}:∀(m:Nat) (d:Array Int) (j:Nat),d.size=n->1<=j->j<=n->b - j < m ->
 aG (cJ l0 o n (a:Int) (b:Int) c) m (wp l o d,i,s,(j:Int))=.inl (wp l o (shiftUp (bH c) b j d),i,s+1)
 | 0,_,_,_,_,_,h=>absurd h (dX _)
 | m+1,d,j,hd,hj,hjn,hm=>by
  have hl':o+d.size<=l.length:=by omega
  have e1:W ((j:Int) - 1)=((j - 1:Nat):Int):=wN oM oM;rw [shiftUp];by_cases h1:j < b
  ·rw [if_pos h1];have e:cJ l0 o n (a:Int) (b:Int) c (wp l o d,i,s,(j:Int))=bif !bH c d[j]! d[j - 1]! then .inr (.inl (wp l o d,i,s+1)) else .inl (wp l o (swp d j (j - 1)),i,s,((j+1:Nat):Int)):=by
    simp only [cJ,iB,gV,e1];rw [bX (show(j:Int) < (b:Int) by omega),cond_true,gL hl' (i:=j) (j:=j - 1) oM oM,cT hl' (i:=j) oM,cT hl' (i:=j - 1) oM];rfl
   cases q:bH c d[j]! d[j - 1]!
   case true=>rw [q] at e;rw [aK (e.trans (by rfl)),if_neg (show ¬(!true)=true by decide)];exact aOn hl hn hb m _ (j+1) (by rw [Go.Sort.size_swp];exact hd) oM oM oM
   rw [q] at e;rw [if_pos (show(!false)=true from rfl)];exact aL (e.trans (by rfl))
  ·rw [if_neg h1];refine aL ?_;simp only [cJ];rw [cA (show ¬(j:Int) < (b:Int) by omega),cond_false]
theorem bCg (hl:o+n<=l.length)(hn:n<=1048576)(hb:b<=n) {s:Int} {i:Nat} (hd:d.size=n)(hi:i<=b) :
 (bif decide (W ((b:Int) - (i:Int))≥2) then(aG (cJ l0 o n (a:Int) (b:Int) c) (tN ((b:Int) - ((i:Int)+1))+1) (wp l o d,(i:Int),s,(i:Int)+1)) else .inl (wp l o d,(i:Int),s+1))=.inl (wp l o (fixUp (bH c) b i d),(i:Int),s+1):=by
 rw [wN (x:=(b:Int) - (i:Int)) (n:=b - i) oM oM];unfold fixUp;by_cases h:b - i≥2
 ·rw [bX (show((b - i:Nat):Int)≥2 by omega),cond_true,if_pos h];exact aOn (i:=(i:Int)) hl hn hb _ d (i+1) hd oM oM oM
 ·rw [cA (show ¬((b - i:Nat):Int)≥2 by omega),cond_false,if_neg h]
theorem aXn (hl:o+n<=l.length)(hn:n<=1048576)(hb:b<=n) {s:Int} {i:Nat} (hd:d.size=n)(hi:i<=b) :
 (bif decide (W ((b:Int) - (i:Int))≥2) then Sum.inr (aG (cJ l0 o n (a:Int) (b:Int) c) (tN ((b:Int) - ((i:Int)+1))+1) (wp l o d,(i:Int),s,(i:Int)+1)) else Sum.inr (Sum.inl (wp l o d,(i:Int),s+1)):(ZL×Zt)⊕((ZL×Int×Int)⊕(Bool×ZL)))=.inr (.inl (wp l o (fixUp (bH c) b i d),(i:Int),s+1)):=by
 rw [←bCg (l0:=l0) (a:=a) hl hn hb hd hi];cases decide (W ((b:Int) - (i:Int))≥2)<;>rfl
theorem aOo (hl:o+n<=l.length)(hn:n<=1048576)(hb:b<=n) {s:Int} {i:Nat} (hi:i<=b):∀(m:Nat) (d:Array Int) (j:Nat),d.size=n->j < n->j < m ->
 aG (eE l0 o n (a:Int) (b:Int) c) m (wp l o d,(i:Int),s,(j:Int))=.inl (wp l o (fixUp (bH c) b i (shiftDown (bH c) j d)),(i:Int),s+1)
 | 0,_,_,_,_,h=>absurd h (dX _)
 | m+1,d,0,hd,hj,hm=>by
  refine aL ?_;simp only [eE];rw [cA (show ¬((0:Nat):Int)≥1 by omega),cond_false];exact aXn hl hn hb hd hi
 | m+1,d,j+1,hd,hj,hm=>by
  have hl':o+d.size<=l.length:=by omega
  have e1:W (((j+1:Nat):Int) - 1)=((j:Nat):Int):=wN oM oM;rw [shiftDown];have e:eE l0 o n (a:Int) (b:Int) c (wp l o d,(i:Int),s,((j+1:Nat):Int))=bif !bH c d[j+1]! d[j]! then .inr (.inl (wp l o (fixUp (bH c) b i d),(i:Int),s+1)) else .inl (wp l o (swp d (j+1) j),(i:Int),s,(j:Int)):=by
   simp only [eE,iB,gV,e1];rw [bX (show((j+1:Nat):Int)≥1 by omega),cond_true,gL hl' (i:=j+1) (j:=j) oM oM,cT hl' (i:=j+1) oM,cT hl' (i:=j) oM];exact congrArg (fun z=>bif !bH c d[j+1]! d[j]! then z else _) (aXn (l0:=l0) (a:=a) (c:=c) hl hn hb hd hi)
  cases q:bH c d[j+1]! d[j]!
  case true=>rw [q] at e;rw [aK (e.trans (by rfl)),if_neg (show ¬(!true)=true by decide)];exact aOo hl hn hb hi m _ j (by rw [Go.Sort.size_swp];exact hd) oM oM
  rw [q] at e;rw [if_pos (show(!false)=true from rfl)];exact aL (e.trans (by rfl))
def aS4 (l:ZL)(o a b:Nat)(c:sL)(d:Array Int)(k:Nat)(s:Int):(ZL×Int×Int)⊕(Bool×ZL) := if k=b then .inr (true,wp l o d)else if b - a < 50 then .inr (false,wp l o d)else .inl (wp l o (fixUp (bH c) b k (fixDown (bH c) a k (swp d k (k - 1)))),(k:Int),s+1)
theorem bE1 (hl:o+n<=l.length)(hn:n<=1048576)(hb:b<=n) {s:Int} {k:Nat} (hd:d.size=n)(hk:a < k)(hkb:k<=b) :
 (bif ((k:Int) == (b:Int)) then Sum.inr (Sum.inr (true,wp l o d)) else bif decide (W ((b:Int) - (a:Int)) < 50) then Sum.inr (Sum.inr (false,wp l o d)) else
  bif decide (W ((k:Int) - (a:Int))≥2) then Sum.inr (aG (eE l0 o n (a:Int) (b:Int) c) (tN ((k - 1:Nat):Int)+1) ((((wp l o d).set (o+k) ((wp l o d).getD (o+(k - 1)) dF)).set (o+(k - 1)) ((wp l o d).getD (o+k) dF)),(k:Int),s,((k - 1:Nat):Int)))
  else bif decide (W ((b:Int) - (k:Int))≥2) then Sum.inr (aG (cJ l0 o n (a:Int) (b:Int) c) (tN ((b:Int) - ((k:Int)+1))+1) ((((wp l o d).set (o+k) ((wp l o d).getD (o+(k - 1)) dF)).set (o+(k - 1)) ((wp l o d).getD (o+k) dF)),(k:Int),s,(k:Int)+1)) else Sum.inr (Sum.inl ((((wp l o d).set (o+k) ((wp l o d).getD (o+(k - 1)) dF)).set (o+(k - 1)) ((wp l o d).getD (o+k) dF)),(k:Int),s+1)) :
  (ZL×Int×Int)⊕((ZL×Int×Int)⊕(Bool×ZL)))=.inr (aS4 l o a b c d k s):=by
 have hl':o+d.size<=l.length:=by omega
 unfold aS4;by_cases h1:k=b
 ·rw [if_pos h1,show((k:Int) == (b:Int))=true by simp;omega];rfl
 ·rw [if_neg h1,show((k:Int) == (b:Int))=false by simp;omega,cond_false,wN (x:=(b:Int) - (a:Int)) (n:=b - a) oM oM];by_cases h2:b - a < 50
  ·rw [if_pos h2,bX oM];rfl
  ·rw [if_neg h2,cA oM,cond_false,gL hl' (i:=k) (j:=k - 1) oM oM,wN (x:=(k:Int) - (a:Int)) (n:=k - a) oM oM];have hds:(swp d k (k - 1)).size=n:=by rw [Go.Sort.size_swp];exact hd
   unfold fixDown;by_cases h3:k - a≥2
   ·rw [bX (show((k - a:Nat):Int)≥2 by omega),cond_true,if_pos h3,aOo hl hn hb hkb _ _ (k - 1) hds oM oM]
   ·rw [cA (show ¬((k - a:Nat):Int)≥2 by omega),cond_false,if_neg h3];have:=bCg (l0:=l0) (a:=a) (c:=c) (s:=s) hl hn hb hds hkb;rw [←this];cases decide (W ((b:Int) - (k:Int))≥2)<;>rfl
theorem aOp (hl:o+n<=l.length)(hn:n<=1048576)(hb:b<=n)(hd:d.size=n) {s:Int}:∀(m i:Nat),a < i->i<=b->b - i < m ->
 aG (eZ l0 o n (a:Int) (b:Int) c) m (wp l o d,(i:Int),s)=aS4 l o a b c d (scanSorted (bH c) d b i) s
 | 0,_,_,_,h=>absurd h (dX _)
 | m+1,i,hai,hib,hm=>by
  have hl':o+d.size<=l.length:=by omega
  have e1:W ((i:Int) - 1)=((i - 1:Nat):Int):=wN oM oM;rw [scanSorted];have hT:=bE1 (l0:=l0) (c:=c) (s:=s) hl hn hb hd hai hib;by_cases h1:i < b
  ·rw [bX h1,Bool.true_and];cases q:bH c d[i]! d[i - 1]!
   case true=>rw [if_neg (show ¬(!true)=true by decide)];refine aL ?_;simp only [eZ,iB,gV,e1];rw [bX (show(i:Int) < (b:Int) by omega),cond_true];rw [show(!bH c ((wp l o d).getD (o+i) dF) ((wp l o d).getD (o+(i - 1)) dF))=false by rw [cT hl' oM,cT hl' oM,q];rfl,cond_false];exact hT
   rw [if_pos (show(!false)=true from rfl)];have e:eZ l0 o n (a:Int) (b:Int) c (wp l o d,(i:Int),s)=.inl (wp l o d,((i+1:Nat):Int),s):=by
    simp only [eZ,iB,gV,e1];rw [bX (show(i:Int) < (b:Int) by omega),cond_true];rw [show(!bH c ((wp l o d).getD (o+i) dF) ((wp l o d).getD (o+(i - 1)) dF))=true by rw [cT hl' oM,cT hl' oM,q];rfl,cond_true];rfl
   rw [aK e];exact aOp hl hn hb hd m (i+1) oM oM oM
  ·rw [cA h1,Bool.false_and,if_neg Bool.false_ne_true];refine aL ?_;simp only [eZ,iB,gV,e1];rw [cA (show ¬(i:Int) < (b:Int) by omega),cond_false];exact hT
theorem oQ (lt:Int->Int->Bool)(d:Array Int)(b:Nat):∀(m i:Nat),b - i<=m->i<=b->i<=scanSorted lt d b i/\scanSorted lt d b i<=b
 | 0,i,h,hi=>by rw [scanSorted,cA oM,Bool.false_and,if_neg Bool.false_ne_true];exact⟨Nat.le_refl _,hi⟩
 | m+1,i,h,hi=>by
  rw [scanSorted];split
  ·rename_i hc;simp at hc;have:=oQ lt d b m (i+1) oM oM;omega
  ·exact⟨Nat.le_refl _,hi⟩
theorem aOq (hl:o+n<=l.length)(hn:n<=1048576)(hb:b<=n):∀(k m:Nat) (d:Array Int) (i:Nat) (s:Int),d.size=n->a < i->i<=b->s+k=5->k < m ->
 aG (bL l0 o n (a:Int) (b:Int) c) m (wp l o d,(i:Int),s)=((partialIns (bH c) a b k i d).2,wp l o (partialIns (bH c) a b k i d).1)/\(partialIns (bH c) a b k i d).1.size=n
 | 0,m+1,d,i,s,hd,hai,hib,hs,hm=>by
  refine⟨aL ?_,hd⟩;simp only [bL];rw [cA (show ¬s < 5 by omega),cond_false];rfl
 | k+1,m+1,d,i,s,hd,hai,hib,hs,hm=>by
  have e:bL l0 o n (a:Int) (b:Int) c (wp l o d,(i:Int),s)=aS4 l o a b c d (scanSorted (bH c) d b i) s:=by
   simp only [bL];rw [bX (show s < 5 by omega),cond_true];exact aOp hl hn hb hd _ i hai hib oM
  rw [partialIns_succ];have hr:=oQ (bH c) d b _ i (Nat.le_refl _) hib;generalize scanSorted (bH c) d b i=q at e hr ⊢;unfold aS4 at e;by_cases h1:q=b
  ·rw [if_pos h1] at e ⊢;exact⟨aL e,hd⟩
  ·rw [if_neg h1] at e ⊢;by_cases h2:b - a < 50
   ·rw [if_pos h2] at e ⊢;exact⟨aL e,hd⟩
   ·rw [if_neg h2] at e ⊢;rw [aK e];exact aOq hl hn hb k m _ q (s+1) (by rw [aDx,yI,Go.Sort.size_swp];exact hd) oM hr.2 oM oM
theorem aS5 (hl:o+n<=l.length)(hn:n<=1048576)(hd:d.size=n)(hab:a < b)(hb:b<=n) :
 cM (wp l o d) o n (a:Int) (b:Int) c=((partialInsertionSort (bH c) d a b).2,wp l o (partialInsertionSort (bH c) d a b).1)/\(partialInsertionSort (bH c) d a b).1.size=n:=by
 unfold cM partialInsertionSort;rw [wN (x:=(a:Int)+1) (n:=a+1) oM oM];exact aOq hl hn hb 5 _ d (a+1) 0 hd oM oM oM (by decide)
end
end Go.Proofs.YtlffahoikfahlaaGreat
namespace Go.Proofs.YtlffahoikfahlaaGreat
open Go.Proofs Go.Aw Go.RowKit
set_option maxRecDepth 100000
section
open Go.Sort
variable {o n a b : Nat} {l l0 : ZL} {c : sL} {d : Array Int}
theorem aS6 (hl:o+n<=l.length)(hd:d.size=n) {x y s:Nat} (hx:x < n)(hy:y < n)(hs:s<=1000) :
 aT (wp l o d) o n (x:Int) (y:Int) (s:Int) c=(((order2 (bH c) d x y s).1:Int),((order2 (bH c) d x y s).2.1:Int),((order2 (bH c) d x y s).2.2:Int))/\(order2 (bH c) d x y s).2.2<=s+1:=by
 have hl':o+d.size<=l.length:=by omega
 unfold aT order2;rw [gV,iB,iB,cT hl' oM,cT hl' oM];cases bH c d[y]! d[x]!
 case true=>rw [cond_true,if_pos rfl];exact⟨by rw [wN (x:=(s:Int)+1) (n:=s+1) oM oM],Nat.le_refl _⟩
 rw [cond_false,if_neg Bool.false_ne_true];exact⟨rfl,Nat.le_succ _⟩
theorem aS7 (hl:o+n<=l.length)(hd:d.size=n) {x y z s:Nat} (hx:x < n)(hy:y < n)(hz:z < n)(hs:s<=900) :
 dO (wp l o d) o n (x:Int) (y:Int) (z:Int) (s:Int) c=(((median (bH c) d x y z s).1:Int),((median (bH c) d x y z s).2:Int))/\(median (bH c) d x y z s).2<=s+3:=by
 unfold dO median;simp only [aSt];have h1:=aS6 (c:=c) hl hd hx hy (s:=s) oM;have m1:=order2_mem (bH c) d x y s;rw [h1.1];generalize order2 (bH c) d x y s=r1 at h1 m1 ⊢;have h2:=aS6 (c:=c) hl hd (x:=r1.2.1) (y:=z) (s:=r1.2.2) oM hz oM;have m2:=order2_mem (bH c) d r1.2.1 z r1.2.2;rw [h2.1];generalize order2 (bH c) d r1.2.1 z r1.2.2=r2 at h2 m2 ⊢;have h3:=aS6 (c:=c) hl hd (x:=r1.1) (y:=r2.1) (s:=r2.2.2) oM oM oM;rw [h3.1];exact⟨rfl,by omega⟩
theorem aS8 (hl:o+n<=l.length)(hn:n<=1048576)(hd:d.size=n) {x s:Nat} (hx:1<=x)(hx2:x+1 < n)(hs:s<=900) :
 dP (wp l o d) o n (x:Int) (s:Int) c=(((medianAdjacent (bH c) d x s).1:Int),((medianAdjacent (bH c) d x s).2:Int))/\(medianAdjacent (bH c) d x s).2<=s+3:=by
 have h:=aS7 (c:=((c.1.1,c.1.2.1,(wp l o d,c.1.2.2.2)),c.2)) hl hd (x:=x - 1) (y:=x) (z:=x+1) (s:=s) oM oM oM hs;unfold dP;rw [wN (x:=(x:Int) - 1) (n:=x - 1) oM oM,wN (x:=(x:Int)+1) (n:=x+1) oM oM,h.1];exact⟨rfl,h.2⟩
theorem aZo (v0 v:ZL)(x y z s:Int):dO v0 o n x y z s ((c.1.1,c.1.2.1,(v,c.1.2.2.2)),c.2)=dO v0 o n x y z s c:=rfl
theorem aZp (v0 v:ZL)(x s:Int):dP v0 o n x s ((c.1.1,c.1.2.1,(v,c.1.2.2.2)),c.2)=dP v0 o n x s c:=rfl
def aOr:Hint->Int | .unknown=>0 | .increasing=>1 | .decreasing=>2
theorem aOs (r:Nat×Nat):(bif (((r.2:Nat):Int) == 0) then(((r.1:Nat):Int),(1:Int)) else bif (((r.2:Nat):Int) == 12) then(((r.1:Nat):Int),2) else(((r.1:Nat):Int),0))=((r.1:Int),aOr (if r.2=0 then .increasing else if r.2=12 then .decreasing else .unknown)):=by
 by_cases h:r.2=0
 ·rw [if_pos h,h];rfl
 ·rw [if_neg h,show(((r.2:Nat):Int) == 0)=false by simp;omega,cond_false];by_cases h2:r.2=12
  ·rw [if_pos h2,h2];rfl
  ·rw [if_neg h2,show(((r.2:Nat):Int) == 12)=false by simp;omega,cond_false];rfl
theorem aS9 (hl:o+n<=l.length)(hn:n<=1048576)(hd:d.size=n)(hab:a < b)(hb:b<=n) :
 bR (wp l o d) o n (a:Int) (b:Int) c=(((choosePivot (bH c) d a b).1:Int),aOr (choosePivot (bH c) d a b).2):=by
 have hw:W ((b:Int) - (a:Int))=((b - a:Nat):Int):=wN oM oM;have hq:W (tD ((b - a:Nat):Int) 4)=(((b - a) / 4:Nat):Int):=by rw [aGf oM];omega
 have hk:∀k:Nat,k<=3->W ((a:Int)+(W ((((b - a) / 4:Nat):Int)*(k:Int))))=((a+(b - a) / 4*k:Nat):Int):=fun k hk=>by
  rw [wN (x:=(((b - a) / 4:Nat):Int)*(k:Int)) (n:=(b - a) / 4*k) (by push_cast;rfl) (Nat.le_trans (Nat.mul_le_mul_left _ hk) oM)];exact wN (by push_cast;rfl) (by have:=Nat.mul_le_mul_left ((b - a) / 4) hk;omega)
 have hk1:=hk 1 oM;have hk2:=hk 2 oM;have hk3:=hk 3 oM;simp only [Int.natCast_one] at hk1;rw [show((2:Nat):Int)=2 from rfl] at hk2;rw [show((3:Nat):Int)=3 from rfl] at hk3;unfold bR choosePivot;simp only [fT,fS,gQ,gP,gO];simp only [aZp,aZo];rw [hw,hq,hk1,hk2,hk3];by_cases h8:b - a≥8
 ·rw [bX (show((b - a:Nat):Int)≥8 by omega),cond_true,if_pos h8];by_cases h50:b - a≥50
  ·rw [bX (show((b - a:Nat):Int)≥50 by omega),cond_true,if_pos h50];have g1:=aS8 (c:=c) hl hn hd (x:=a+(b - a) / 4*1) (s:=0) oM oM oM;have m1:(medianAdjacent (bH c) d (a+(b - a) / 4*1) 0).1 < n:=by rcases medianAdjacent_mem (bH c) d (a+(b - a) / 4*1) 0 with h | h | h<;>omega
   rw [Int.natCast_zero] at g1;rw [g1.1];generalize medianAdjacent (bH c) d (a+(b - a) / 4*1) 0=r1 at g1 m1 ⊢;have g2:=aS8 (c:=c) hl hn hd (x:=a+(b - a) / 4*2) (s:=r1.2) oM oM oM;have m2:(medianAdjacent (bH c) d (a+(b - a) / 4*2) r1.2).1 < n:=by rcases medianAdjacent_mem (bH c) d (a+(b - a) / 4*2) r1.2 with h | h | h<;>omega
   rw [g2.1];generalize medianAdjacent (bH c) d (a+(b - a) / 4*2) r1.2=r2 at g2 m2 ⊢;have g3:=aS8 (c:=c) hl hn hd (x:=a+(b - a) / 4*3) (s:=r2.2) oM oM oM;have m3:(medianAdjacent (bH c) d (a+(b - a) / 4*3) r2.2).1 < n:=by rcases medianAdjacent_mem (bH c) d (a+(b - a) / 4*3) r2.2 with h | h | h<;>omega
   rw [g3.1];generalize medianAdjacent (bH c) d (a+(b - a) / 4*3) r2.2=r3 at g3 m3 ⊢;have g4:=aS7 (c:=c) hl hd (x:=r1.1) (y:=r2.1) (z:=r3.1) (s:=r3.2) m1 m2 m3 oM;rw [g4.1];exact aOs _
  ·rw [cA (show ¬((b - a:Nat):Int)≥50 by omega),cond_false,if_neg h50];have g4:=aS7 (c:=c) hl hd (x:=a+(b - a) / 4*1) (y:=a+(b - a) / 4*2) (z:=a+(b - a) / 4*3) (s:=0) oM oM oM oM;rw [Int.natCast_zero] at g4;rw [g4.1];exact aOs _
 ·rw [cA (show ¬((b - a:Nat):Int)≥8 by omega),cond_false,if_neg h8];rfl
theorem aTa {x y:Nat} (hx:x < 18446744073709551616)(hy:y < 18446744073709551616):iW .u64 ((bO 64 (x:Int) ^^^ bO 64 (y:Int)).toNat:Int)=((x ^^^ y:Nat):Int):=by
 have h:x ^^^ y < 2 ^ 64:=Nat.xor_lt_two_pow oM oM;rw [BitVec.toNat_xor,BitVec.toNat_ofInt,BitVec.toNat_ofInt,show((x:Int) % ((2 ^ 64:Nat):Int)).toNat=x by omega,show((y:Int) % ((2 ^ 64:Nat):Int)).toNat=y by omega,IntKind.wrap_u64];omega
theorem bCh {x:Nat} (hx:x < 18446744073709551616):eR (x:Int)=(((xorNextN x:Nat):Int),((xorNextN x:Nat):Int)):=by
 have e1:iW .u64 ((bO 64 (x:Int) ^^^ bO 64 (iW .u64 ((x:Int)*2 ^ (min (tN 13) 64)))).toNat:Int)=((x ^^^ (x*8192 % 18446744073709551616):Nat):Int):=by
  rw [show(2:Int) ^ (min (tN 13) 64)=8192 from by decide,IntKind.wrap_u64 ((x:Int)*8192),show((x:Int)*8192 % 18446744073709551616)=((x*8192 % 18446744073709551616:Nat):Int) by omega];exact aTa hx oM
 unfold eR xorNextN;simp only [e1];obtain⟨A,hA⟩:∃A:Nat,A=x ^^^ (x*8192 % 18446744073709551616):=⟨_,rfl⟩;have lA:A < 18446744073709551616:=by rw [hA];exact Nat.xor_lt_two_pow (n:=64) oM oM
 rw [←hA];have e2:iW .u64 ((bO 64 (A:Int) ^^^ bO 64 (fD (A:Int) (2 ^ (min (tN 7) 64)))).toNat:Int)=((A ^^^ (A / 128):Nat):Int):=by
  rw [show(2:Int) ^ (min (tN 7) 64)=128 from by decide,Int.fdiv_eq_ediv_of_nonneg _ (by decide),show((A:Int) / 128)=((A / 128:Nat):Int) by omega];exact aTa lA oM
 simp only [e2];obtain⟨B,hB⟩:∃B:Nat,B=A ^^^ (A / 128):=⟨_,rfl⟩;have lB:B < 18446744073709551616:=by rw [hB];exact Nat.xor_lt_two_pow (n:=64) oM oM
 rw [←hB];have e3:iW .u64 ((bO 64 (B:Int) ^^^ bO 64 (iW .u64 ((B:Int)*2 ^ (min (tN 17) 64)))).toNat:Int)=((B ^^^ (B*131072 % 18446744073709551616):Nat):Int):=by
  rw [show(2:Int) ^ (min (tN 17) 64)=131072 from by decide,IntKind.wrap_u64 ((B:Int)*131072),show((B:Int)*131072 % 18446744073709551616)=((B*131072 % 18446744073709551616:Nat):Int) by omega];exact aTa lB oM
 rw [e3]
theorem aDy (hl:o+n<=l.length)(hn:n<=1048576)(hd:d.size=n)(hab:a+8<=b)(hb:b<=n) {i:Nat} (h1:a+(b - a) / 4*2<=i+1)(h2:i<=a+(b - a) / 4*2+1)(r:UInt64) :
 iQ l0 o n (a:Int) (b:Int) c (wp l o d,(i:Int),((r.toNat:Nat):Int)) =
  .inl (wp l o (breakStep a (b - a) (1 <<< bitsLen (b - a)) (r,d) i).2,((i+1:Nat):Int),(((breakStep a (b - a) (1 <<< bitsLen (b - a)) (r,d) i).1.toNat:Nat):Int))/\(breakStep a (b - a) (1 <<< bitsLen (b - a)) (r,d) i).2.size=n:=by
 have hl':o+d.size<=l.length:=by omega
 have hw:W ((b:Int) - (a:Int))=((b - a:Nat):Int):=wN oM oM;have hq:W (tD ((b - a:Nat):Int) 4)=(((b - a) / 4:Nat):Int):=by rw [aGf oM];omega
 have hA:W ((a:Int)+(W ((((b - a) / 4:Nat):Int)*2)))=((a+(b - a) / 4*2:Nat):Int):=by
  rw [wN (x:=(((b - a) / 4:Nat):Int)*2) (n:=(b - a) / 4*2) oM oM];exact wN oM oM
 have hA1:W (((a+(b - a) / 4*2:Nat):Int)+1)=((a+(b - a) / 4*2+1:Nat):Int):=wN oM oM;have hM:=aSv (n:=b - a) oM oM;have hxs:=bCh (x:=r.toNat) (by have:=r.toNat_lt;omega);have hxl:xorNextN r.toNat < 18446744073709551616:=xorNextN_lt _ (by have:=r.toNat_lt;omega);have hO:aP6 ((xorNextN r.toNat:Nat):Int) (fA ((b - a:Nat):Int))=((xorNextN r.toNat &&& (1 <<< bitsLen (b - a) - 1):Nat):Int):=by
  rw [aSu oM,aKl _ ⟨hM.1,by omega⟩,BitVec.toNat_ofInt];rw [show(((xorNextN r.toNat:Nat):Int) % ((2 ^ 64:Nat):Int)).toNat=xorNextN r.toNat by omega]
 unfold aP6 at hO;have hle:xorNextN r.toNat &&& (1 <<< bitsLen (b - a) - 1)<=1 <<< bitsLen (b - a) - 1:=Nat.and_le_right;unfold breakStep;simp only [xorNext_toNat];generalize hoo:xorNextN r.toNat &&& (1 <<< bitsLen (b - a) - 1)=O at hO hle ⊢;simp only [iQ,hw,hq,hA,hA1,hxs,hO,iB];rw [bX (show(i:Int)<=((a+(b - a) / 4*2+1:Nat):Int) by omega),cond_true];by_cases h:O≥b - a
 ·rw [bX (show(O:Int)≥((b - a:Nat):Int) by omega),cond_true,if_pos h,wN (x:=(O:Int) - ((b - a:Nat):Int)) (n:=O - (b - a)) oM oM,wN (x:=(a:Int)+((O - (b - a):Nat):Int)) (n:=a+(O - (b - a))) oM oM,iB,gL hl' (i:=i) (j:=a+(O - (b - a))) oM oM];exact⟨rfl,by rw [Go.Sort.size_swp];exact hd⟩
 ·rw [cA (show ¬(O:Int)≥((b - a:Nat):Int) by omega),cond_false,if_neg h,wN (x:=(a:Int)+(O:Int)) (n:=a+O) oM oM,iB,gL hl' (i:=i) (j:=a+O) oM oM];exact⟨rfl,by rw [Go.Sort.size_swp];exact hd⟩
theorem aTb (hl:o+n<=l.length)(hn:n<=1048576)(hd:d.size=n)(hab:a<=b)(hb:b<=n) :
 fJ (wp l o d) o n (a:Int) (b:Int) c=wp l o (breakPatterns d a b):=by
 have hw:W ((b:Int) - (a:Int))=((b - a:Nat):Int):=wN oM oM;unfold fJ breakPatterns;simp only [];rw [hw];by_cases h8:b - a≥8
 ·rw [bX (show((b - a:Nat):Int)≥8 by omega),cond_true,if_pos h8];have hq:W (tD ((b - a:Nat):Int) 4)=(((b - a) / 4:Nat):Int):=by rw [aGf oM];omega
  have hA:W ((a:Int)+(W ((((b - a) / 4:Nat):Int)*2)))=((a+(b - a) / 4*2:Nat):Int):=by
   rw [wN (x:=(((b - a) / 4:Nat):Int)*2) (n:=(b - a) / 4*2) oM oM];exact wN oM oM
  rw [hq,hA,wN (x:=((a+(b - a) / 4*2:Nat):Int) - 1) (n:=a+(b - a) / 4*2 - 1) oM oM];have hr:iW .u64 ((b - a:Nat):Int)=(((UInt64.ofNat (b - a)).toNat:Nat):Int):=by
   rw [IntKind.wrap_u64,UInt64.toNat_ofNat_of_lt' (show b - a < 2 ^ 64 by omega)];omega
  rw [hr,show tN ((a:Int)+((b:Int) - (a:Int)) / 4*2+2 - ((a+(b - a) / 4*2 - 1:Nat):Int))+1=4 by omega];have s1:=aDy (a:=a) (b:=b) (l:=l) (l0:=wp l o d) (c:=c) (d:=d) hl hn hd oM hb (i:=a+(b - a) / 4*2 - 1) oM oM (UInt64.ofNat (b - a));rw [aK s1.1];generalize hst1:breakStep a (b - a) (1 <<< bitsLen (b - a)) (UInt64.ofNat (b - a),d) (a+(b - a) / 4*2 - 1)=st1 at s1 ⊢;obtain⟨r1,d1⟩:=st1;have s2:=aDy (a:=a) (b:=b) (l:=l) (l0:=wp l o d) (c:=c) (d:=d1) hl hn s1.2 oM hb (i:=a+(b - a) / 4*2 - 1+1) oM oM r1;rw [aK s2.1];generalize hst2:breakStep a (b - a) (1 <<< bitsLen (b - a)) (r1,d1) (a+(b - a) / 4*2 - 1+1)=st2 at s2 ⊢;obtain⟨r2,d2⟩:=st2;have s3:=aDy (a:=a) (b:=b) (l:=l) (l0:=wp l o d) (c:=c) (d:=d2) hl hn s2.2 oM hb (i:=a+(b - a) / 4*2 - 1+1+1) oM oM r2;rw [aK s3.1];refine aL ?_;simp only [iQ,hw,hq,hA];rw [cA (by rw [wN (x:=((a+(b - a) / 4*2:Nat):Int)+1) (n:=a+(b - a) / 4*2+1) oM oM];omega),cond_false]
 ·rw [cA (show ¬((b - a:Nat):Int)≥8 by omega),cond_false,if_neg h8]
end
end Go.Proofs.YtlffahoikfahlaaGreat
namespace Go.Proofs.YtlffahoikfahlaaGreat
open Go.Proofs Go.Aw Go.RowKit
set_option maxRecDepth 100000
section
open Go.Sort
theorem aOt (x y:Int):aFb x y=if x < y then -1 else if y < x then 1 else 0:=by
 have hn:∀z:Int,aHr z=false:=fun z=>by unfold aHr;simp
 unfold aFb;rw [hn,hn,cond_false,cond_false];by_cases h:x < y
 ·rw [bX h,if_pos h];rfl
 ·rw [cA h,if_neg h,cond_false];by_cases h2:y < x
  ·rw [bX (show x > y from h2),if_pos h2];rfl
  ·rw [cA (show ¬x > y from h2),if_neg h2];rfl
def kk (c:sL)(x:Int):Int:=mU c.1 x c.2
theorem aHt (c:sL)(x y:Int):bH c x y=true↔kk c x < kk c y\/kk c x=kk c y/\x < y:=by
 have e:iC c x y=aDv (aFb (kk c x) (kk c y),aFb x y):=rfl;unfold bH;rw [decide_eq_true_iff,e,aOt,aOt];unfold aDv;by_cases h1:kk c x < kk c y
 ·simp [h1]
 ·by_cases h2:kk c y < kk c x
  ·simp [h1,h2];omega
  ·by_cases h3:x < y
   ·simp [h1,h2,h3];omega
   ·by_cases h4:y < x
    ·simp [h1,h2,h3,h4]
    ·simp [h1,h2,h3,h4]
theorem aOu (c:sL)(x y:Int):bH c x y=false↔¬(kk c x < kk c y\/kk c x=kk c y/\x < y):=by
 rw [←aHt];simp
theorem nL (c:sL):SWO (bH c) where
 irrefl x:=by rw [aOu];omega
 trans x y z h1 h2:=by rw [aHt] at *;omega
 ntrans x y z h1 h2:=by rw [aOu] at *;omega
theorem aV1 (c:sL)(x y:Int)(h1:bH c x y=false)(h2:bH c y x=false):x=y:=by
 rw [aOu] at *;omega
def Al (p:Int->Prop)(d:Array Int):Prop:=∀i,i < d.size->p d[i]!
variable {p : Int → Prop} {d d' : Array Int} {N o n : Nat} {l v : ZL} {c : sL}
theorem Al.swp (h:Al p d) {i j:Nat} (hi:i < d.size)(hj:j < d.size):Al p (Go.Sort.swp d i j):=fun k hk=>by
 rw [Go.Sort.size_swp] at hk;rw [Go.Sort.swp_get d hi hj k];split
 ·exact h i hi
 ·split
  ·exact h j hj
  ·exact h k hk
theorem Al.perm (h:Al p d) {a b:Nat} (hb:b<=d.size)(hp:PermIn a b d d'):Al p d':=fun k hk=>by
 by_cases hin:a<=k/\k < b
 ·exact permIn_all d d' a b p hb hp (fun i h1 h2=>h i oM) k hin.1 hin.2
 ·rw [hp.2.1 k oM];exact h k (by rw [←hp.1];exact hk)
theorem aZq (h:o+d.size<=l.length):InR N (wp l o d)↔(∀x∈l.take o++l.drop (o+d.size),0<=x/\x < (N:Int))/\Al (fun x=>0<=x/\x < (N:Int)) d:=by
 unfold InR wp Al;constructor
 ·intro hx;refine⟨fun x hm=>hx x ?_,fun i hi=>hx _ ?_⟩
  ·rcases List.mem_append.1 hm with hm | hm
   ·exact List.mem_append_left _ (List.mem_append_left _ hm)
   ·exact List.mem_append_right _ hm
  ·refine List.mem_append_left _ (List.mem_append_right _ ?_);rw [getElem!_pos d i hi];exact Array.mem_toList_iff.2 (Array.getElem_mem hi)
 ·rintro ⟨h1,h2⟩ x hm
  rcases List.mem_append.1 hm with hm | hm
  ·rcases List.mem_append.1 hm with hm | hm
   ·exact h1 x (List.mem_append_left _ hm)
   ·obtain⟨i,hi,rfl⟩:=List.getElem_of_mem hm;have hi':i < d.size:=by simpa using hi
    have:=h2 i hi';rw [getElem!_pos d i hi'] at this;simpa using this
  ·exact h1 x (List.mem_append_right _ hm)
theorem aTc (hl:o+n<=v.length)(hi:InR N v) {f:Array Int->Array Int} (hs:(f (kV v o n)).size=n)(hf:∀p,Al p (kV v o n)->Al p (f (kV v o n))):(wp v o (f (kV v o n))).length=v.length/\InR N (wp v o (f (kV v o n))):=by
 refine⟨aDw oM,?_⟩;have hz:(kV v o n).size=n:=fM hl;have h0:InR N (wp v o (kV v o n)):=by rw [oN hl];exact hi
 rw [aZq oM] at h0 ⊢;rw [hs];rw [hz] at h0;exact⟨h0.1,hf _ h0.2⟩
theorem qU (hl:o+n<=v.length)(hi:InR N v) {a b:Nat} (hb:b<=n)(hp:PermIn a b (kV v o n) d'):(wp v o d').length=v.length/\InR N (wp v o d') :=
 aTc (f:=fun _=>d') hl hi (by rw [hp.1];exact fM hl) (fun p h=>h.perm (by rw [fM hl];exact hb) hp)
theorem yJ (lt:Int->Int->Bool):∀(j:Nat) (d:Array Int),j < d.size->Al p d->Al p (shiftDown lt j d)
 | 0,d,_,h=>h
 | j+1,d,hj,h=>by
  rw [shiftDown];split
  ·exact h
  ·exact yJ lt j _ (by rw [Go.Sort.size_swp];omega) (h.swp hj oM)
theorem aDz (lt:Int->Int->Bool)(b:Nat):∀(m j:Nat) (d:Array Int),b - j<=m->b<=d.size->Al p d->Al p (shiftUp lt b j d)
 | 0,j,d,hm,_,h=>by rw [shiftUp,if_neg oM];exact h
 | m+1,j,d,hm,hb,h=>by
  rw [shiftUp];split
  ·split
   ·exact h
   ·exact aDz lt b m _ _ oM (by rw [Go.Sort.size_swp];exact hb) (h.swp oM oM)
  ·exact h
theorem vU (lt:Int->Int->Bool)(a b:Nat):∀(s i:Nat) (d:Array Int),i<=b->b<=d.size->Al p d->Al p (partialIns lt a b s i d).1/\(partialIns lt a b s i d).1.size=d.size
 | 0,i,d,_,_,h=>⟨h,rfl⟩
 | s+1,i,d,hi,hb,h=>by
  rw [partialIns_succ];have hr:=oQ lt d b _ i (Nat.le_refl _) hi;generalize scanSorted lt d b i=k at hr ⊢;split
  ·exact⟨h,rfl⟩
  ·split
   ·exact⟨h,rfl⟩
   ·have h1:Al p (Go.Sort.swp d k (k - 1)):=h.swp oM oM;have h2:Al p (fixDown lt a k (Go.Sort.swp d k (k - 1))):=by
     unfold fixDown;split
     ·exact yJ lt _ _ (by rw [Go.Sort.size_swp];omega) h1
     ·exact h1
    have zz2:(fixDown lt a k (Go.Sort.swp d k (k - 1))).size=d.size:=by rw [yI,Go.Sort.size_swp]
    have h3:Al p (fixUp lt b k (fixDown lt a k (Go.Sort.swp d k (k - 1)))):=by
     unfold fixUp;split
     ·exact aDz lt b _ _ _ (Nat.le_refl _) (by rw [zz2];exact hb) h2
     ·exact h2
    have zz3:(fixUp lt b k (fixDown lt a k (Go.Sort.swp d k (k - 1)))).size=d.size:=by rw [aDx,zz2]
    have ih:=vU lt a b s k _ hr.2 (by rw [zz3];exact hb) h3;exact⟨ih.1,by rw [ih.2,zz3]⟩
theorem aOv (lt:Int->Int->Bool) {a b q:Nat} (h1:a<=q)(h2:q < b)(hb:b<=d.size):a < (partitionEqual lt d a b q).1/\(partitionEqual lt d a b q).1<=b/\PermIn a b d (partitionEqual lt d a b q).2:=by
 unfold partitionEqual;obtain⟨r1,r2,r3,_⟩:=partEqLoop_spec lt a b _ (a+1) (b - 1) (Go.Sort.swp d a q) (Nat.le_refl _) (lss a) oM oM (by rw [Go.Sort.size_swp];exact hb) (fun t h1 h2=>by omega) (fun t h1 h2=>by omega);exact⟨r1,r2,permIn_trans _ _ _ _ _ (swp_permIn d a b a q (Nat.le_refl _) oM h1 h2 hb) (permIn_mono _ _ (a+1) b a b (Nat.le_succ a) (Nat.le_refl _) (by rw [Go.Sort.size_swp];exact hb) r3)⟩
variable {a b q : Int}
theorem bCi (hw:o+n<=v.length/\v.length<=1048576)(hi:InR N v)(h:0<=a/\a<=b/\b<=(n:Int)) :
 (jG v o n a b c).length=v.length/\InR N (jG v o n a b c):=by
 obtain⟨a,rfl⟩:∃k:Nat,a=k:=⟨a.toNat,by omega⟩;obtain⟨b,rfl⟩:∃k:Nat,b=k:=⟨b.toNat,by omega⟩;have hz:=fM hw.1;have e:=aSx (l:=v) (c:=c) (d:=kV v o n) hw.1 oM (a:=a) (b:=b) oM oM hz;rw [oN hw.1] at e;rw [e];exact qU hw.1 hi (a:=a) (b:=b) oM (insertionSort_holds (nL c) _ a b oM oM).1
theorem bCj (hw:o+n<=v.length/\v.length<=1048576)(hi:InR N v)(h:0<=a/\a<=b/\b<=(n:Int)) :
 (jI v o n a b c).length=v.length/\InR N (jI v o n a b c):=by
 obtain⟨a,rfl⟩:∃k:Nat,a=k:=⟨a.toNat,by omega⟩;obtain⟨b,rfl⟩:∃k:Nat,b=k:=⟨b.toNat,by omega⟩;have hz:=fM hw.1;have e:=aS1 (l:=v) (c:=c) (d:=kV v o n) hw.1 oM (a:=a) (b:=b) oM oM hz;rw [oN hw.1] at e;rw [e];exact qU hw.1 hi (a:=a) (b:=b) oM (heapSort_holds (nL c) _ a b oM oM).1
theorem aXo (hw:o+n<=v.length/\v.length<=1048576)(hi:InR N v)(h:0<=a/\a<=b/\b<=(n:Int)) :
 (fJ v o n a b c).length=v.length/\InR N (fJ v o n a b c):=by
 obtain⟨a,rfl⟩:∃k:Nat,a=k:=⟨a.toNat,by omega⟩;obtain⟨b,rfl⟩:∃k:Nat,b=k:=⟨b.toNat,by omega⟩;have hz:=fM hw.1;have e:=aTb (l:=v) (c:=c) (d:=kV v o n) hw.1 oM hz (a:=a) (b:=b) oM oM;rw [oN hw.1] at e;rw [e];exact qU hw.1 hi (a:=a) (b:=b) oM (breakPatterns_holds _ a b oM oM)
theorem aXp (hw:o+n<=v.length/\v.length<=1048576)(hi:InR N v)(h:0<=a/\a < b/\b<=(n:Int)) :
 (fI v o n a b c).length=v.length/\InR N (fI v o n a b c):=by
 obtain⟨a,rfl⟩:∃k:Nat,a=k:=⟨a.toNat,by omega⟩;obtain⟨b,rfl⟩:∃k:Nat,b=k:=⟨b.toNat,by omega⟩;have hz:=fM hw.1;have e:=aSy (l:=v) (c:=c) (d:=kV v o n) hw.1 oM (a:=a) (b:=b) oM oM hz;rw [oN hw.1] at e;rw [e];exact qU hw.1 hi (a:=a) (b:=b) oM (reverseRange_holds _ a b oM oM)
theorem aXq (hw:o+n<=v.length/\v.length<=1048576)(h:0<=a/\a < b/\b<=(n:Int)) :
 a<=(bR v o n a b c).1/\(bR v o n a b c).1 < b:=by
 obtain⟨a,rfl⟩:∃k:Nat,a=k:=⟨a.toNat,by omega⟩;obtain⟨b,rfl⟩:∃k:Nat,b=k:=⟨b.toNat,by omega⟩;have hz:=fM hw.1;have e:=aS9 (l:=v) (c:=c) (d:=kV v o n) hw.1 oM hz (a:=a) (b:=b) oM oM;rw [oN hw.1] at e;rw [e];have:=choosePivot_holds (bH c) (kV v o n) a b oM;dsimp only;omega
theorem aXr (hw:o+n<=v.length/\v.length<=1048576)(hi:InR N v)(h:0<=a/\a < b/\b<=(n:Int)) :
 (cM v o n a b c).2.length=v.length/\InR N (cM v o n a b c).2:=by
 obtain⟨a,rfl⟩:∃k:Nat,a=k:=⟨a.toNat,by omega⟩;obtain⟨b,rfl⟩:∃k:Nat,b=k:=⟨b.toNat,by omega⟩;have hz:=fM hw.1;have e:=aS5 (l:=v) (c:=c) (d:=kV v o n) hw.1 oM hz (a:=a) (b:=b) oM oM;rw [oN hw.1] at e;rw [e.1];exact aTc (f:=fun d=>(partialInsertionSort (bH c) d a b).1) hw.1 hi e.2 (fun p hp=>(vU (bH c) a b 5 (a+1) _ oM oM hp).1)
theorem aXs (hw:o+n<=v.length/\v.length<=1048576)(hi:InR N v)(h:0<=a/\a<=q/\q < b/\b<=(n:Int)) :
 (a<=(aJ v o n a b q c).1/\(aJ v o n a b q c).1 < b)/\(aJ v o n a b q c).2.2.length=v.length/\InR N (aJ v o n a b q c).2.2:=by
 obtain⟨a,rfl⟩:∃k:Nat,a=k:=⟨a.toNat,by omega⟩;obtain⟨b,rfl⟩:∃k:Nat,b=k:=⟨b.toNat,by omega⟩;obtain⟨q,rfl⟩:∃k:Nat,q=k:=⟨q.toNat,by omega⟩;have hz:=fM hw.1;have e:=aS2 (l:=v) (c:=c) (d:=kV v o n) hw.1 oM hz (a:=a) (b:=b) (p:=q) oM oM oM;rw [oN hw.1] at e;rw [e];obtain⟨r1,r2,r3,_⟩:=partition_holds (lt:=bH c) (nL c) (kV v o n) a b q oM oM oM;exact⟨by dsimp only;omega,qU hw.1 hi (a:=a) (b:=b) oM r3⟩
theorem aXt (hw:o+n<=v.length/\v.length<=1048576)(hi:InR N v)(h:0<=a/\a<=q/\q < b/\b<=(n:Int)) :
 (a < (dA v o n a b q c).1/\(dA v o n a b q c).1<=b)/\(dA v o n a b q c).2.length=v.length/\InR N (dA v o n a b q c).2:=by
 obtain⟨a,rfl⟩:∃k:Nat,a=k:=⟨a.toNat,by omega⟩;obtain⟨b,rfl⟩:∃k:Nat,b=k:=⟨b.toNat,by omega⟩;obtain⟨q,rfl⟩:∃k:Nat,q=k:=⟨q.toNat,by omega⟩;have hz:=fM hw.1;have e:=aS3 (l:=v) (c:=c) (d:=kV v o n) hw.1 oM hz (a:=a) (b:=b) (p:=q) oM oM oM;rw [oN hw.1] at e;rw [e];obtain⟨r1,r2,r3⟩:=aOv (d:=kV v o n) (bH c) (a:=a) (b:=b) (q:=q) oM oM oM;exact⟨by dsimp only;omega,qU hw.1 hi (a:=a) (b:=b) oM r3⟩
end
end Go.Proofs.YtlffahoikfahlaaGreat
namespace Go.Proofs.YtlffahoikfahlaaGreat
open Go.Proofs Go.Aw Go.RowKit
set_option maxRecDepth 100000
noncomputable def mZ:Code:=(dY [1,1,0,0,0,1,1,1,1,1,1,1,1,0] [0] (aV Tryz.f160)).1
noncomputable def nA (m0:Nat):List K:=(dY [1,1,0,0,0,1,1,1,1,1,1,1,1,0] [m0] (aV Tryz.f160)).2
def lP (nr:Nat)(a0:ZL)(a0_o a0_n:Nat)(a1 a2 a3:Int)(a4:eG×Int)(v31c:List SV)(v31n:Nat)(v32 v33 v34 v35 v36:Int):LS:=⟨gU 148 [(0,(.s 0 (0+a0_o*1) a0_n 1)),(1,(iv v32)),(2,(iv v33)),(3,(iv v34)),(4,(.f 1000126 [(.a [(.p 1 0),(iv a4.2)])])),(12,(iv v35)),(13,(iv v36))],[(.live true true v31c),(.live false false [(.s 2 0 a4.1.1.length 10),(iv a4.1.2.1),(.s 0 0 v31n 1),(.s 3 0 a4.1.2.2.2.length 8)]),(.live false true (flat dI a4.1.1)),(.live false true (flat cR a4.1.2.2.2))]⟩
def eL (rr:ZL->(Nat)->(Nat)->(Int)->(Int)->(Int)->TyS->ZL)(a0:ZL)(a0_o a0_n:Nat)(a1 a2 a3:Int)(a4:eG×Int):ZL×Int×Int×Zt->(ZL×Int×Int×Int×Bool×Bool)⊕ZL | (v31,v32,v33,v34,v35,v36) => (bif (decide (((W ((aJ v31 a0_o a0_n v32 v33 v36 ((a4.1.1,a4.1.2.1,(v31,a4.1.2.2.2)),a4.2)).1 - v32)):Int) < (W (v33 - (aJ v31 a0_o a0_n v32 v33 v36 ((a4.1.1,a4.1.2.1,(v31,a4.1.2.2.2)),a4.2)).1))))then(.inl ((rr ((aJ v31 a0_o a0_n v32 v33 v36 ((a4.1.1,a4.1.2.1,(v31,a4.1.2.2.2)),a4.2)).2.2) a0_o a0_n v32 (aJ v31 a0_o a0_n v32 v33 v36 ((a4.1.1,a4.1.2.1,(v31,a4.1.2.2.2)),a4.2)).1 v34 ((a4.1.1,a4.1.2.1,((aJ v31 a0_o a0_n v32 v33 v36 ((a4.1.1,a4.1.2.1,(v31,a4.1.2.2.2)),a4.2)).2.2,a4.1.2.2.2)),a4.2)),(W ((aJ v31 a0_o a0_n v32 v33 v36 ((a4.1.1,a4.1.2.1,(v31,a4.1.2.2.2)),a4.2)).1+1)),v33,v34,(decide (((W ((aJ v31 a0_o a0_n v32 v33 v36 ((a4.1.1,a4.1.2.1,(v31,a4.1.2.2.2)),a4.2)).1 - v32)):Int)≥(W (tD v35 8)))),(aJ v31 a0_o a0_n v32 v33 v36 ((a4.1.1,a4.1.2.1,(v31,a4.1.2.2.2)),a4.2)).2.1))else(.inl ((rr ((aJ v31 a0_o a0_n v32 v33 v36 ((a4.1.1,a4.1.2.1,(v31,a4.1.2.2.2)),a4.2)).2.2) a0_o a0_n (W ((aJ v31 a0_o a0_n v32 v33 v36 ((a4.1.1,a4.1.2.1,(v31,a4.1.2.2.2)),a4.2)).1+1)) v33 v34 ((a4.1.1,a4.1.2.1,((aJ v31 a0_o a0_n v32 v33 v36 ((a4.1.1,a4.1.2.1,(v31,a4.1.2.2.2)),a4.2)).2.2,a4.1.2.2.2)),a4.2)),v32,(aJ v31 a0_o a0_n v32 v33 v36 ((a4.1.1,a4.1.2.1,(v31,a4.1.2.2.2)),a4.2)).1,v34,(decide (((W (v33 - (aJ v31 a0_o a0_n v32 v33 v36 ((a4.1.1,a4.1.2.1,(v31,a4.1.2.2.2)),a4.2)).1)):Int)≥(W (tD v35 8)))),(aJ v31 a0_o a0_n v32 v33 v36 ((a4.1.1,a4.1.2.1,(v31,a4.1.2.2.2)),a4.2)).2.1)))
noncomputable def iI:Code:=(dY [1,1,0,0,0,1,1,1,1,1,1,1,0,0] [0] (aV Tryz.f160)).1
noncomputable def iJ (m0:Nat):List K:=(dY [1,1,0,0,0,1,1,1,1,1,1,1,0,0] [m0] (aV Tryz.f160)).2
def gZ (nr:Nat)(a0:ZL)(a0_o a0_n:Nat)(a1 a2 a3:Int)(a4:eG×Int)(v23c:List SV)(v23n:Nat)(v24 v25 v26:Int)(v27 v28:Bool)(v29 v30:Int):LS:=⟨gU 148 [(0,(.s 0 (0+a0_o*1) a0_n 1)),(1,(iv v24)),(2,(iv v25)),(3,(iv v26)),(4,(.f 1000126 [(.a [(.p 1 0),(iv a4.2)])])),(10,(.v (.bool v27))),(11,(.v (.bool v28))),(12,(iv v29)),(13,(iv v30))],[(.live true true v23c),(.live false false [(.s 2 0 a4.1.1.length 10),(iv a4.1.2.1),(.s 0 0 v23n 1),(.s 3 0 a4.1.2.2.2.length 8)]),(.live false true (flat dI a4.1.1)),(.live false true (flat cR a4.1.2.2.2))]⟩
def bU (rr:ZL->(Nat)->(Nat)->(Int)->(Int)->(Int)->TyS->ZL)(a0:ZL)(a0_o a0_n:Nat)(a1 a2 a3:Int)(a4:eG×Int):ZL×Int×Int×Int×Bool×Bool×Int×Int->(ZL×Int×Int×Int×Bool×Bool)⊕ZL | (v23,v24,v25,v26,v27,v28,v29,v30) => (bif (decide ((v24:Int) > 0))then(bif (!(decide (((iC ((a4.1.1,a4.1.2.1,(v23,a4.1.2.2.2)),a4.2) (v23.getD (a0_o+tN (W (v24 - 1))) dF) (v23.getD (a0_o+tN v30) dF)):Int) < 0)))then(.inl ((dA v23 a0_o a0_n v24 v25 v30 ((a4.1.1,a4.1.2.1,(v23,a4.1.2.2.2)),a4.2)).2,(dA v23 a0_o a0_n v24 v25 v30 ((a4.1.1,a4.1.2.1,(v23,a4.1.2.2.2)),a4.2)).1,v25,v26,v27,v28))else(eL rr a0 a0_o a0_n a1 a2 a3 a4 (v23,v24,v25,v26,v29,v30)))else(eL rr a0 a0_o a0_n a1 a2 a3 a4 (v23,v24,v25,v26,v29,v30)))
noncomputable def nB:Code:=(dY [1,1,0,0,0,1,1,1,1,1,1,0,0] [0] (aV Tryz.f160)).1
noncomputable def nC (m0:Nat):List K:=(dY [1,1,0,0,0,1,1,1,1,1,1,0,0] [m0] (aV Tryz.f160)).2
def lQ (nr:Nat)(a0:ZL)(a0_o a0_n:Nat)(a1 a2 a3:Int)(a4:eG×Int)(v14c:List SV)(v14n:Nat)(v15 v16 v17:Int)(v18 v19:Bool)(v20 v21 v22:Int):LS:=⟨gU 148 [(0,(.s 0 (0+a0_o*1) a0_n 1)),(1,(iv v15)),(2,(iv v16)),(3,(iv v17)),(4,(.f 1000126 [(.a [(.p 1 0),(iv a4.2)])])),(10,(.v (.bool v18))),(11,(.v (.bool v19))),(12,(iv v20)),(13,(iv v21)),(14,(iv v22))],[(.live true true v14c),(.live false false [(.s 2 0 a4.1.1.length 10),(iv a4.1.2.1),(.s 0 0 v14n 1),(.s 3 0 a4.1.2.2.2.length 8)]),(.live false true (flat dI a4.1.1)),(.live false true (flat cR a4.1.2.2.2))]⟩
def bI (rr:ZL->(Nat)->(Nat)->(Int)->(Int)->(Int)->TyS->ZL)(a0:ZL)(a0_o a0_n:Nat)(a1 a2 a3:Int)(a4:eG×Int):ZL×Int×Int×Int×Bool×Bool×Zt->(ZL×Int×Int×Int×Bool×Bool)⊕ZL | (v14,v15,v16,v17,v18,v19,v20,v21,v22) => (bif v18 then(bif v19 then(bif ((v22:Int) == 1)then(bif (cM v14 a0_o a0_n v15 v16 ((a4.1.1,a4.1.2.1,(v14,a4.1.2.2.2)),a4.2)).1 then(.inr (cM v14 a0_o a0_n v15 v16 ((a4.1.1,a4.1.2.1,(v14,a4.1.2.2.2)),a4.2)).2)else(bU rr a0 a0_o a0_n a1 a2 a3 a4 ((cM v14 a0_o a0_n v15 v16 ((a4.1.1,a4.1.2.1,(v14,a4.1.2.2.2)),a4.2)).2,v15,v16,v17,v18,v19,v20,v21)))else(bU rr a0 a0_o a0_n a1 a2 a3 a4 (v14,v15,v16,v17,v18,v19,v20,v21)))else(bU rr a0 a0_o a0_n a1 a2 a3 a4 (v14,v15,v16,v17,v18,v19,v20,v21)))else(bU rr a0 a0_o a0_n a1 a2 a3 a4 (v14,v15,v16,v17,v18,v19,v20,v21)))
noncomputable def nD:Code:=(dY [1,1,0,0,0,1,1,1,1,0] [0] (aV Tryz.f160)).1
noncomputable def nE (m0:Nat):List K:=(dY [1,1,0,0,0,1,1,1,1,0] [m0] (aV Tryz.f160)).2
def lR (nr:Nat)(a0:ZL)(a0_o a0_n:Nat)(a1 a2 a3:Int)(a4:eG×Int)(v7c:List SV)(v7n:Nat)(v8 v9 v10:Int)(v11 v12:Bool)(v13:Int):LS:=⟨gU 148 [(0,(.s 0 (0+a0_o*1) a0_n 1)),(1,(iv v8)),(2,(iv v9)),(3,(iv v10)),(4,(.f 1000126 [(.a [(.p 1 0),(iv a4.2)])])),(10,(.v (.bool v11))),(11,(.v (.bool v12))),(12,(iv v13))],[(.live true true v7c),(.live false false [(.s 2 0 a4.1.1.length 10),(iv a4.1.2.1),(.s 0 0 v7n 1),(.s 3 0 a4.1.2.2.2.length 8)]),(.live false true (flat dI a4.1.1)),(.live false true (flat cR a4.1.2.2.2))]⟩
def eM (rr:ZL->(Nat)->(Nat)->(Int)->(Int)->(Int)->TyS->ZL)(a0:ZL)(a0_o a0_n:Nat)(a1 a2 a3:Int)(a4:eG×Int):ZL×Int×Int×Int×Bool×Bool×Int->(ZL×Int×Int×Int×Bool×Bool)⊕ZL | (v7,v8,v9,v10,v11,v12,v13) => (bif (((bR v7 a0_o a0_n v8 v9 ((a4.1.1,a4.1.2.1,(v7,a4.1.2.2.2)),a4.2)).2:Int) == 2)then(bI rr a0 a0_o a0_n a1 a2 a3 a4 ((fI v7 a0_o a0_n v8 v9 ((a4.1.1,a4.1.2.1,(v7,a4.1.2.2.2)),a4.2)),v8,v9,v10,v11,v12,v13,(W ((W (v9 - 1)) - (W ((bR v7 a0_o a0_n v8 v9 ((a4.1.1,a4.1.2.1,(v7,a4.1.2.2.2)),a4.2)).1 - v8)))),1))else(bI rr a0 a0_o a0_n a1 a2 a3 a4 (v7,v8,v9,v10,v11,v12,v13,(bR v7 a0_o a0_n v8 v9 ((a4.1.1,a4.1.2.1,(v7,a4.1.2.2.2)),a4.2)).1,(bR v7 a0_o a0_n v8 v9 ((a4.1.1,a4.1.2.1,(v7,a4.1.2.2.2)),a4.2)).2)))
noncomputable def cK:=aU [1,1] [] (aV Tryz.f160) []
def eI (nr:Nat)(a0:ZL)(a0_o a0_n:Nat)(a1 a2 a3:Int)(a4:eG×Int)(v1c:List SV)(v1n:Nat)(v2 v3 v4:Int)(v5 v6:Bool):LS:=⟨gU 148 [(0,(.s 0 (0+a0_o*1) a0_n 1)),(1,(iv v2)),(2,(iv v3)),(3,(iv v4)),(4,(.f 1000126 [(.a [(.p 1 0),(iv a4.2)])])),(10,(.v (.bool v5))),(11,(.v (.bool v6)))],[(.live true true v1c),(.live false false [(.s 2 0 a4.1.1.length 10),(iv a4.1.2.1),(.s 0 0 v1n 1),(.s 3 0 a4.1.2.2.2.length 8)]),(.live false true (flat dI a4.1.1)),(.live false true (flat cR a4.1.2.2.2))]⟩
def bS (rr:ZL->(Nat)->(Nat)->(Int)->(Int)->(Int)->TyS->ZL)(a0:ZL)(a0_o a0_n:Nat)(a1 a2 a3:Int)(a4:eG×Int):ZL×Int×Int×Int×Bool×Bool->(ZL×Int×Int×Int×Bool×Bool)⊕ZL | (v1,v2,v3,v4,v5,v6) => (bif (decide (((W (v3 - v2)):Int)<=12))then(.inr (jG v1 a0_o a0_n v2 v3 ((a4.1.1,a4.1.2.1,(v1,a4.1.2.2.2)),a4.2)))else(bif ((v4:Int) == 0)then(.inr (jI v1 a0_o a0_n v2 v3 ((a4.1.1,a4.1.2.1,(v1,a4.1.2.2.2)),a4.2)))else(bif (!v5)then(eM rr a0 a0_o a0_n a1 a2 a3 a4 ((fJ v1 a0_o a0_n v2 v3 ((a4.1.1,a4.1.2.1,(v1,a4.1.2.2.2)),a4.2)),v2,v3,(W (v4 - 1)),v5,v6,(W (v3 - v2))))else(eM rr a0 a0_o a0_n a1 a2 a3 a4 (v1,v2,v3,v4,v5,v6,(W (v3 - v2)))))))
def aX:Nat->ZL->(Nat)->(Nat)->(Int)->(Int)->(Int)->TyS->ZL | 0,_,_,_,_,_,_,_=>dF | nr+1,a0,a0_o,a0_n,a1,a2,a3,a4 => (aG (bS (aX nr) a0 a0_o a0_n a1 a2 a3 a4) (tN (a2 - a1)+1) (a0,a1,a2,a3,true,true))
def pJ (a0:ZL)(a0_o a0_n:Nat)(a1 a2 a3:Int)(a4:eG×Int):ZL:=aX (tN (a2 - a1)+1) a0 a0_o a0_n a1 a2 a3 a4
section
variable {N o n L : Nat} {v : ZL} {a b lim lo hi : Int} {c : sL}
def PqP (L N:Nat)(lo hi:Int)(m:Int):((ZL×Int×Int×Int×Bool×Bool)⊕ZL)->Prop | .inl s=>s.1.length=L/\InR N s.1/\lo<=s.2.1/\s.2.1<=s.2.2.1/\s.2.2.1<=hi/\s.2.2.1 - s.2.1 < m | .inr v=>v.length=L/\InR N v
theorem aGg {σ ρ:Type} [Inhabited ρ] {S:σ->σ⊕ρ} (P:σ->Prop)(Q:ρ->Prop)(m:σ->Nat)(h:∀s,P s->match S s with | .inl t=>P t/\m t < m s | .inr r=>Q r):∀(k:Nat) (s:σ),P s->m s < k->Q (aG S k s)
 | 0,s,_,hk=>absurd hk (dX _)
 | k+1,s,hs,hk=>by
  have h1:=h s hs;cases e:S s with
  | inl t=>rw [e] at h1;rw [aK e];exact aGg P Q m h k t h1.1 (by have:=h1.2;omega)
  | inr r=>rw [e] at h1;rw [aL e];exact h1
variable {nr : Nat} {rr : ZL → Nat → Nat → Int → Int → Int → sL → ZL}
 (Hr:∀(v:ZL) (o n:Nat) (a b lim:Int) (c:sL),(o+n<=v.length/\v.length<=1048576)->InR N v->(0<=a/\a<=b/\b<=(n:Int))->tN (b - a) < nr->(rr v o n a b lim c).length=v.length/\InR N (rr v o n a b lim c))
include Hr
theorem bE2 {a0:ZL} {a1 a2 a3 ln q:Int} (hw:o+n<=v.length/\v.length<=1048576)(hI:InR N v)(h:0<=a/\lo<=a/\a<=q/\q < b/\b<=hi/\b<=(n:Int))(hm:tN (b - a)<=nr) :
 PqP v.length N lo hi (b - a) (eL rr a0 o n a1 a2 a3 c (v,a,b,lim,ln,q)):=by
 obtain⟨h1,h2,h3⟩:=aXs (N:=N) (v:=v) (o:=o) (n:=n) (a:=a) (b:=b) (q:=q) (c:=((c.1.1,c.1.2.1,(v,c.1.2.2.2)),c.2)) hw hI oM;have hw1:=aH (n:=(aJ v o n a b q ((c.1.1,c.1.2.1,(v,c.1.2.2.2)),c.2)).1+1) oM oM;simp only [eL];rw [Bool.cond_eq_ite];split
 ·have hr:=Hr (aJ v o n a b q ((c.1.1,c.1.2.1,(v,c.1.2.2.2)),c.2)).2.2 o n a (aJ v o n a b q ((c.1.1,c.1.2.1,(v,c.1.2.2.2)),c.2)).1 lim ((c.1.1,c.1.2.1,((aJ v o n a b q ((c.1.1,c.1.2.1,(v,c.1.2.2.2)),c.2)).2.2,c.1.2.2.2)),c.2) oM h3 oM oM;exact⟨hr.1.trans h2,hr.2,by dsimp only;omega,by dsimp only;omega,by dsimp only;omega,by dsimp only;omega⟩
 ·have hr:=Hr (aJ v o n a b q ((c.1.1,c.1.2.1,(v,c.1.2.2.2)),c.2)).2.2 o n (W ((aJ v o n a b q ((c.1.1,c.1.2.1,(v,c.1.2.2.2)),c.2)).1+1)) b lim ((c.1.1,c.1.2.1,((aJ v o n a b q ((c.1.1,c.1.2.1,(v,c.1.2.2.2)),c.2)).2.2,c.1.2.2.2)),c.2) oM h3 oM oM;exact⟨hr.1.trans h2,hr.2,by dsimp only;omega,by dsimp only;omega,by dsimp only;omega,by dsimp only;omega⟩
theorem bCk {a0:ZL} {a1 a2 a3 ln q:Int} {b1 b2:Bool} (hw:o+n<=v.length/\v.length<=1048576)(hI:InR N v)(h:0<=a/\lo<=a/\a<=q/\q < b/\b<=hi/\b<=(n:Int))(hm:tN (b - a)<=nr) :
 PqP v.length N lo hi (b - a) (bU rr a0 o n a1 a2 a3 c (v,a,b,lim,b1,b2,ln,q)):=by
 have h20:=bE2 Hr (a0:=a0) (a1:=a1) (a2:=a2) (a3:=a3) (ln:=ln) (q:=q) (lim:=lim) (c:=c) hw hI h hm;simp only [bU];rw [Bool.cond_eq_ite];split
 ·rw [Bool.cond_eq_ite];split
  ·obtain⟨h1,h2,h3⟩:=aXt (N:=N) (v:=v) (o:=o) (n:=n) (a:=a) (b:=b) (q:=q) (c:=((c.1.1,c.1.2.1,(v,c.1.2.2.2)),c.2)) hw hI oM;exact⟨h2,h3,by dsimp only;omega,by dsimp only;omega,by dsimp only;omega,by dsimp only;omega⟩
  ·exact h20
 ·exact h20
theorem bCl {a0:ZL} {a1 a2 a3 ln q hn:Int} {b1 b2:Bool} (hw:o+n<=v.length/\v.length<=1048576)(hI:InR N v)(h:0<=a/\lo<=a/\a<=q/\q < b/\b<=hi/\b<=(n:Int))(hm:tN (b - a)<=nr) :
 PqP v.length N lo hi (b - a) (bI rr a0 o n a1 a2 a3 c (v,a,b,lim,b1,b2,ln,q,hn)):=by
 have h17:=bCk Hr (a0:=a0) (a1:=a1) (a2:=a2) (a3:=a3) (ln:=ln) (q:=q) (lim:=lim) (c:=c) (b1:=b1) (b2:=b2) hw hI h hm;obtain⟨h1,h2⟩:=aXr (N:=N) (v:=v) (o:=o) (n:=n) (a:=a) (b:=b) (c:=((c.1.1,c.1.2.1,(v,c.1.2.2.2)),c.2)) hw hI oM;have g17:=bCk Hr (o:=o) (n:=n) (a:=a) (b:=b) (lo:=lo) (hi:=hi) (v:=(cM v o n a b ((c.1.1,c.1.2.1,(v,c.1.2.2.2)),c.2)).2) (a0:=a0) (a1:=a1) (a2:=a2) (a3:=a3) (ln:=ln) (q:=q) (lim:=lim) (c:=c) (b1:=b1) (b2:=b2) oM h2 h hm;rw [h1] at g17;simp only [bI];cases b1
 case false=>exact h17
 cases b2
 case false=>exact h17
 rw [cond_true,cond_true,Bool.cond_eq_ite];split
 ·rw [Bool.cond_eq_ite];split
  ·exact⟨h1,h2⟩
  ·exact g17
 ·exact h17
theorem bCm {a0:ZL} {a1 a2 a3 ln:Int} {b1 b2:Bool} (hw:o+n<=v.length/\v.length<=1048576)(hI:InR N v)(h:0<=a/\lo<=a/\a < b/\b<=hi/\b<=(n:Int))(hm:tN (b - a)<=nr) :
 PqP v.length N lo hi (b - a) (eM rr a0 o n a1 a2 a3 c (v,a,b,lim,b1,b2,ln)):=by
 have hc:=aXq (v:=v) (o:=o) (n:=n) (a:=a) (b:=b) (c:=((c.1.1,c.1.2.1,(v,c.1.2.2.2)),c.2)) hw oM;obtain⟨h1,h2⟩:=aXp (N:=N) (v:=v) (o:=o) (n:=n) (a:=a) (b:=b) (c:=((c.1.1,c.1.2.1,(v,c.1.2.2.2)),c.2)) hw hI oM;have e1:W ((W (b - 1)) - (W ((bR v o n a b ((c.1.1,c.1.2.1,(v,c.1.2.2.2)),c.2)).1 - a)))=b - 1 - ((bR v o n a b ((c.1.1,c.1.2.1,(v,c.1.2.2.2)),c.2)).1 - a):=by
  rw [aH (n:=b - 1) oM oM,aH (n:=(bR v o n a b ((c.1.1,c.1.2.1,(v,c.1.2.2.2)),c.2)).1 - a) oM oM];exact aH oM oM
 simp only [eM,e1];rw [Bool.cond_eq_ite];split
 ·have g:=bCl Hr (v:=fI v o n a b ((c.1.1,c.1.2.1,(v,c.1.2.2.2)),c.2)) (a0:=a0) (a1:=a1) (a2:=a2) (a3:=a3) (ln:=ln) (q:=b - 1 - ((bR v o n a b ((c.1.1,c.1.2.1,(v,c.1.2.2.2)),c.2)).1 - a)) (hn:=1) (lim:=lim) (c:=c) (b1:=b1) (b2:=b2) (lo:=lo) (hi:=hi) (a:=a) (b:=b) (o:=o) (n:=n) oM h2 oM hm;rw [h1] at g;exact g
 ·exact bCl Hr hw hI oM hm
theorem pq0 {a0:ZL} {a1 a2 a3:Int} {b1 b2:Bool} (hw:o+n<=v.length/\v.length<=1048576)(hI:InR N v)(h:0<=a/\lo<=a/\a<=b/\b<=hi/\b<=(n:Int))(hm:tN (b - a)<=nr) :
 PqP v.length N lo hi (b - a) (bS rr a0 o n a1 a2 a3 c (v,a,b,lim,b1,b2)):=by
 have hW:=aH (n:=b - a) oM oM;simp only [bS];by_cases h12:W (b - a)<=12
 ·rw [bX h12,cond_true];exact bCi hw hI oM
 ·rw [cA h12,cond_false,Bool.cond_eq_ite];split
  ·exact bCj hw hI oM
  ·cases b1
   case true=>exact bCm Hr hw hI oM hm
   obtain⟨h1,h2⟩:=aXo (N:=N) (v:=v) (o:=o) (n:=n) (a:=a) (b:=b) (c:=((c.1.1,c.1.2.1,(v,c.1.2.2.2)),c.2)) hw hI oM;have g:=bCm Hr (v:=fJ v o n a b ((c.1.1,c.1.2.1,(v,c.1.2.2.2)),c.2)) (a0:=a0) (a1:=a1) (a2:=a2) (a3:=a3) (ln:=W (b - a)) (lim:=W (lim - 1)) (c:=c) (b1:=false) (b2:=b2) (lo:=lo) (hi:=hi) (a:=a) (b:=b) (o:=o) (n:=n) oM h2 oM hm;rw [h1] at g;exact g
end
theorem aBu:∀(nr:Nat) {N o n:Nat} {v:ZL} {a b lim:Int} {c:sL},(o+n<=v.length/\v.length<=1048576)->InR N v->(0<=a/\a<=b/\b<=(n:Int))->tN (b - a) < nr ->
 (aX nr v o n a b lim c).length=v.length/\InR N (aX nr v o n a b lim c)
 | 0,_,_,_,_,_,_,_,_,_,_,_,h=>absurd h (dX _)
 | nr+1,N,o,n,v,a,b,lim,c,hw,hI,h,hm=>by
  have Hr:=fun(v:ZL) (o n:Nat) (a b lim:Int) (c:sL) h1 h2 h3 h4=>aBu nr (N:=N) (v:=v) (o:=o) (n:=n) (a:=a) (b:=b) (lim:=lim) (c:=c) h1 h2 h3 h4
  unfold aX;refine aGg (fun s=>s.1.length=v.length/\InR N s.1/\a<=s.2.1/\s.2.1<=s.2.2.1/\s.2.2.1<=b) (fun r=>r.length=v.length/\InR N r) (fun s=>tN (s.2.2.1 - s.2.1)) (fun s hs=>?_) _ _ ⟨rfl,hI,by dsimp only;omega,by dsimp only;omega,by dsimp only;omega⟩ (by dsimp only;omega);obtain⟨s1,s2,s3,s4,s5,s6⟩:=s;dsimp only at hs ⊢;have g:=pq0 (N:=N) (nr:=nr) Hr (v:=s1) (o:=o) (n:=n) (a:=s2) (b:=s3) (lim:=s4) (c:=c) (lo:=a) (hi:=b) (a0:=v) (a1:=a) (a2:=b) (a3:=lim) (b1:=s5) (b2:=s6) oM hs.2.1 oM oM;rw [hs.1] at g;cases e:bS (aX nr) v o n a b lim c (s1,s2,s3,s4,s5,s6) with
  | inr r=>rw [e] at g;exact g
  | inl t =>
   rw [e] at g;obtain⟨g1,g2,g3,g4,g5,g6⟩:=g;exact⟨⟨g1,g2,g3,g4,g5⟩,by omega⟩
theorem sM (nr:Nat)(a0:ZL)(a0_o a0_n:Nat)(a1 a2 a3:Int)(a4:eG×Int)(l0:a0.length<=2^63-1)(l4_1_1:a4.1.1.length<=2^63-1)(l4_1_2_2_1:a4.1.2.2.1.length<=2^63-1)(l4_1_2_2_2:a4.1.2.2.2.length<=2^63-1)(hw:a0_o+a0_n<=a0.length/\a0.length<=1048576)(hr:InR a4.1.1.length a0)(hab:0<=a1/\a1<=a2/\a2<=↑a0_n)(hlt:tN (a2 - a1) < nr+1)(ihr:∀(a0:ZL)(a0_o a0_n:Nat)(a1 a2 a3:Int)(a4:eG×Int)(l0:a0.length<=2^63-1)(l4_1_1:a4.1.1.length<=2^63-1)(l4_1_2_2_1:a4.1.2.2.1.length<=2^63-1)(l4_1_2_2_2:a4.1.2.2.2.length<=2^63-1)(hw:a0_o+a0_n<=a0.length/\a0.length<=1048576)(hr:InR a4.1.1.length a0)(hab:0<=a1/\a1<=a2/\a2<=↑a0_n),tN (a2 - a1) < nr->Con Tryz.prog 160 [(.s 0 (0+a0_o*1) a0_n 1),(iv a1),(iv a2),(iv a3),(.f 1000126 [(.a [(.p 1 0),(iv a4.2)])])] [(.live true true (flat c3 a0)),(.live false false [(.s 2 0 a4.1.1.length 10),(iv a4.1.2.1),(.s 0 0 a0.length 1),(.s 3 0 a4.1.2.2.2.length 8)]),(.live false true (flat dI a4.1.1)),(.live false true (flat cR a4.1.2.2.2))] (.t []) [] [(.live true true (flat c3 (aX nr a0 a0_o a0_n a1 a2 a3 a4))),.un,.un,.un]) {cx:Cx} (hcx:cx.base=4)
 (n0:Nat) (g0:∀(v1:ZL) (v2 v3 v4:Int) (v5 v6:Bool),(v1.length=a0.length)/\(InR a4.1.1.length v1)/\(a1<=v2)/\(v2<=v3)/\(v3<=a2)->tN (v3 - v2) < n0->gG Tryz.f160 cx (.t []) [] [(.live true true (flat c3 (aG (bS (aX nr) a0 a0_o a0_n a1 a2 a3 a4) n0 (v1,v2,v3,v4,v5,v6)))),.un,.un,.un] (.l cK.1 n0::cK.2) (eI nr a0 a0_o a0_n a1 a2 a3 a4 (flat c3 v1) v1.length v2 v3 v4 v5 v6)) (v31:ZL) (v32 v33 v34 v35 v36:Int):(v31.length=a0.length)/\(InR a4.1.1.length v31)/\(a1<=v32)/\(v32<=v33)/\(v33<=a2)/\(v35=v33 - v32)/\(13<=v35)/\(v32<=v36)/\(v36 < v33)/\((v31.length=a0.length))/\((InR a4.1.1.length v31))/\((a1<=v32))/\((v32<=v33))/\((v33<=a2))/\(tN (v33 - v32) < n0+1)->gG Tryz.f160 cx (.t []) [] [(.live true true (flat c3 (bN (bS (aX nr) a0 a0_o a0_n a1 a2 a3 a4) n0 (eL (aX nr) a0 a0_o a0_n a1 a2 a3 a4 (v31,v32,v33,v34,v35,v36))))),.un,.un,.un] (.c mZ::nA n0) (lP nr a0 a0_o a0_n a1 a2 a3 a4 (flat c3 v31) v31.length v32 v33 v34 v35 v36):=by
 intro hi;have hpa:=aXs (N:=a4.1.1.length) (v:=v31) (o:=a0_o) (n:=a0_n) (a:=v32) (b:=v33) (c:=((a4.1.1,a4.1.2.1,(v31,a4.1.2.2.2)),a4.2)) (q:=v36) oM hi.2.1 oM;obtain⟨hpa1,hpa2,hpa3⟩:=hpa;have hw_1:=aH (n:=(aJ v31 a0_o a0_n v32 v33 v36 ((a4.1.1,a4.1.2.1,(v31,a4.1.2.2.2)),a4.2)).1+1) oM oM;have hrc1:=aBu nr (N:=a4.1.1.length) (v:=(aJ v31 a0_o a0_n v32 v33 v36 ((a4.1.1,a4.1.2.1,(v31,a4.1.2.2.2)),a4.2)).2.2) (o:=a0_o) (n:=a0_n) (a:=v32) (b:=(aJ v31 a0_o a0_n v32 v33 v36 ((a4.1.1,a4.1.2.1,(v31,a4.1.2.2.2)),a4.2)).1) (lim:=v34) (c:=((a4.1.1,a4.1.2.1,((aJ v31 a0_o a0_n v32 v33 v36 ((a4.1.1,a4.1.2.1,(v31,a4.1.2.2.2)),a4.2)).2.2,a4.1.2.2.2)),a4.2)) oM hpa3 oM oM;obtain⟨hrc1a,hrc1b⟩:=hrc1;have hrc2:=aBu nr (N:=a4.1.1.length) (v:=(aJ v31 a0_o a0_n v32 v33 v36 ((a4.1.1,a4.1.2.1,(v31,a4.1.2.2.2)),a4.2)).2.2) (o:=a0_o) (n:=a0_n) (a:=(W ((aJ v31 a0_o a0_n v32 v33 v36 ((a4.1.1,a4.1.2.1,(v31,a4.1.2.2.2)),a4.2)).1+1))) (b:=v33) (lim:=v34) (c:=((a4.1.1,a4.1.2.1,((aJ v31 a0_o a0_n v32 v33 v36 ((a4.1.1,a4.1.2.1,(v31,a4.1.2.2.2)),a4.2)).2.2,a4.1.2.2.2)),a4.2)) oM hpa3 oM oM;obtain⟨hrc2a,hrc2b⟩:=hrc2;let t0:SL:=[.c [0,1,2,3] (aKe v31 a0_o a0_n v32 v33 v36 ((a4.1.1,a4.1.2.1,(v31,a4.1.2.2.2)),a4.2) oM oM (by(try simp only [Lt]);omega) oM oM hi.2.1 oM),.p (show(8:Int)≠0 from by decide)];rw [eL];cases h0:(decide (((W ((aJ v31 a0_o a0_n v32 v33 v36 ((a4.1.1,a4.1.2.1,(v31,a4.1.2.2.2)),a4.2)).1 - v32)):Int) < (W (v33 - (aJ v31 a0_o a0_n v32 v33 v36 ((a4.1.1,a4.1.2.1,(v31,a4.1.2.2.2)),a4.2)).1))))
 case true=>
  refine bA n0 (t0++[.d h0,.c [0,1,2,3] (by have q:=(ihr ((aJ v31 a0_o a0_n v32 v33 v36 ((a4.1.1,a4.1.2.1,(v31,a4.1.2.2.2)),a4.2)).2.2) a0_o a0_n v32 (aJ v31 a0_o a0_n v32 v33 v36 ((a4.1.1,a4.1.2.1,(v31,a4.1.2.2.2)),a4.2)).1 v34 ((a4.1.1,a4.1.2.1,((aJ v31 a0_o a0_n v32 v33 v36 ((a4.1.1,a4.1.2.1,(v31,a4.1.2.2.2)),a4.2)).2.2,a4.1.2.2.2)),a4.2) oM oM (by(try simp only [Lt]);omega) oM oM hpa3 oM oM);(try dsimp only at q);(try rw [show List.length (α:=Int) (aJ v31 a0_o a0_n v32 v33 v36 ((a4.1.1,a4.1.2.1,(v31,a4.1.2.2.2)),a4.2)).2.2=v31.length from by first | simp;done | omega] at q);exact q)]) [0,1,2,3,4,10,11] [] hcx cK (eI nr a0 a0_o a0_n a1 a2 a3 a4 (flat c3 (aX nr ((aJ v31 a0_o a0_n v32 v33 v36 ((a4.1.1,a4.1.2.1,(v31,a4.1.2.2.2)),a4.2)).2.2) a0_o a0_n v32 (aJ v31 a0_o a0_n v32 v33 v36 ((a4.1.1,a4.1.2.1,(v31,a4.1.2.2.2)),a4.2)).1 v34 ((a4.1.1,a4.1.2.1,((aJ v31 a0_o a0_n v32 v33 v36 ((a4.1.1,a4.1.2.1,(v31,a4.1.2.2.2)),a4.2)).2.2,a4.1.2.2.2)),a4.2))) (v31.length) (W ((aJ v31 a0_o a0_n v32 v33 v36 ((a4.1.1,a4.1.2.1,(v31,a4.1.2.2.2)),a4.2)).1+1)) v33 v34 (decide (((W ((aJ v31 a0_o a0_n v32 v33 v36 ((a4.1.1,a4.1.2.1,(v31,a4.1.2.2.2)),a4.2)).1 - v32)):Int)≥(W (tD v35 8)))) ((aJ v31 a0_o a0_n v32 v33 v36 ((a4.1.1,a4.1.2.1,(v31,a4.1.2.2.2)),a4.2)).2.1)) ?_;have z0:v31.length=(aX nr ((aJ v31 a0_o a0_n v32 v33 v36 ((a4.1.1,a4.1.2.1,(v31,a4.1.2.2.2)),a4.2)).2.2) a0_o a0_n v32 (aJ v31 a0_o a0_n v32 v33 v36 ((a4.1.1,a4.1.2.1,(v31,a4.1.2.2.2)),a4.2)).1 v34 ((a4.1.1,a4.1.2.1,((aJ v31 a0_o a0_n v32 v33 v36 ((a4.1.1,a4.1.2.1,(v31,a4.1.2.2.2)),a4.2)).2.2,a4.1.2.2.2)),a4.2)).length:=by first | omega | (simp;done)
  rw [z0];exact g0 (aX nr ((aJ v31 a0_o a0_n v32 v33 v36 ((a4.1.1,a4.1.2.1,(v31,a4.1.2.2.2)),a4.2)).2.2) a0_o a0_n v32 (aJ v31 a0_o a0_n v32 v33 v36 ((a4.1.1,a4.1.2.1,(v31,a4.1.2.2.2)),a4.2)).1 v34 ((a4.1.1,a4.1.2.1,((aJ v31 a0_o a0_n v32 v33 v36 ((a4.1.1,a4.1.2.1,(v31,a4.1.2.2.2)),a4.2)).2.2,a4.1.2.2.2)),a4.2)) (W ((aJ v31 a0_o a0_n v32 v33 v36 ((a4.1.1,a4.1.2.1,(v31,a4.1.2.2.2)),a4.2)).1+1)) v33 v34 (decide (((W ((aJ v31 a0_o a0_n v32 v33 v36 ((a4.1.1,a4.1.2.1,(v31,a4.1.2.2.2)),a4.2)).1 - v32)):Int)≥(W (tD v35 8)))) ((aJ v31 a0_o a0_n v32 v33 v36 ((a4.1.1,a4.1.2.1,(v31,a4.1.2.2.2)),a4.2)).2.1) (by and_intros<;>(try simp only [Lt])<;>first | omega | assumption | exact hi.2.1 | exact hi.2.2.1 | exact InR.swap hi.2.1 oM oM | exact InR.swap hr oM oM | exact hbk2 | exact hrv2 | exact hpi2 | exact hpe3 | exact hpa3 | exact hrc1b | exact hrc2b) oM
 refine bA n0 (t0++[.d h0,.c [0,1,2,3] (by have q:=(ihr ((aJ v31 a0_o a0_n v32 v33 v36 ((a4.1.1,a4.1.2.1,(v31,a4.1.2.2.2)),a4.2)).2.2) a0_o a0_n (W ((aJ v31 a0_o a0_n v32 v33 v36 ((a4.1.1,a4.1.2.1,(v31,a4.1.2.2.2)),a4.2)).1+1)) v33 v34 ((a4.1.1,a4.1.2.1,((aJ v31 a0_o a0_n v32 v33 v36 ((a4.1.1,a4.1.2.1,(v31,a4.1.2.2.2)),a4.2)).2.2,a4.1.2.2.2)),a4.2) oM oM (by(try simp only [Lt]);omega) oM oM hpa3 oM oM);(try dsimp only at q);(try rw [show List.length (α:=Int) (aJ v31 a0_o a0_n v32 v33 v36 ((a4.1.1,a4.1.2.1,(v31,a4.1.2.2.2)),a4.2)).2.2=v31.length from by first | simp;done | omega] at q);exact q)]) [0,1,2,3,4,10,11] [] hcx cK (eI nr a0 a0_o a0_n a1 a2 a3 a4 (flat c3 (aX nr ((aJ v31 a0_o a0_n v32 v33 v36 ((a4.1.1,a4.1.2.1,(v31,a4.1.2.2.2)),a4.2)).2.2) a0_o a0_n (W ((aJ v31 a0_o a0_n v32 v33 v36 ((a4.1.1,a4.1.2.1,(v31,a4.1.2.2.2)),a4.2)).1+1)) v33 v34 ((a4.1.1,a4.1.2.1,((aJ v31 a0_o a0_n v32 v33 v36 ((a4.1.1,a4.1.2.1,(v31,a4.1.2.2.2)),a4.2)).2.2,a4.1.2.2.2)),a4.2))) (v31.length) v32 ((aJ v31 a0_o a0_n v32 v33 v36 ((a4.1.1,a4.1.2.1,(v31,a4.1.2.2.2)),a4.2)).1) v34 (decide (((W (v33 - (aJ v31 a0_o a0_n v32 v33 v36 ((a4.1.1,a4.1.2.1,(v31,a4.1.2.2.2)),a4.2)).1)):Int)≥(W (tD v35 8)))) ((aJ v31 a0_o a0_n v32 v33 v36 ((a4.1.1,a4.1.2.1,(v31,a4.1.2.2.2)),a4.2)).2.1)) ?_;have z0:v31.length=(aX nr ((aJ v31 a0_o a0_n v32 v33 v36 ((a4.1.1,a4.1.2.1,(v31,a4.1.2.2.2)),a4.2)).2.2) a0_o a0_n (W ((aJ v31 a0_o a0_n v32 v33 v36 ((a4.1.1,a4.1.2.1,(v31,a4.1.2.2.2)),a4.2)).1+1)) v33 v34 ((a4.1.1,a4.1.2.1,((aJ v31 a0_o a0_n v32 v33 v36 ((a4.1.1,a4.1.2.1,(v31,a4.1.2.2.2)),a4.2)).2.2,a4.1.2.2.2)),a4.2)).length:=by first | omega | (simp;done)
 rw [z0];exact g0 (aX nr ((aJ v31 a0_o a0_n v32 v33 v36 ((a4.1.1,a4.1.2.1,(v31,a4.1.2.2.2)),a4.2)).2.2) a0_o a0_n (W ((aJ v31 a0_o a0_n v32 v33 v36 ((a4.1.1,a4.1.2.1,(v31,a4.1.2.2.2)),a4.2)).1+1)) v33 v34 ((a4.1.1,a4.1.2.1,((aJ v31 a0_o a0_n v32 v33 v36 ((a4.1.1,a4.1.2.1,(v31,a4.1.2.2.2)),a4.2)).2.2,a4.1.2.2.2)),a4.2)) v32 ((aJ v31 a0_o a0_n v32 v33 v36 ((a4.1.1,a4.1.2.1,(v31,a4.1.2.2.2)),a4.2)).1) v34 (decide (((W (v33 - (aJ v31 a0_o a0_n v32 v33 v36 ((a4.1.1,a4.1.2.1,(v31,a4.1.2.2.2)),a4.2)).1)):Int)≥(W (tD v35 8)))) ((aJ v31 a0_o a0_n v32 v33 v36 ((a4.1.1,a4.1.2.1,(v31,a4.1.2.2.2)),a4.2)).2.1) (by and_intros<;>(try simp only [Lt])<;>first | omega | assumption | exact hi.2.1 | exact hi.2.2.1 | exact InR.swap hi.2.1 oM oM | exact InR.swap hr oM oM | exact hbk2 | exact hrv2 | exact hpi2 | exact hpe3 | exact hpa3 | exact hrc1b | exact hrc2b) oM
theorem kC (nr:Nat)(a0:ZL)(a0_o a0_n:Nat)(a1 a2 a3:Int)(a4:eG×Int)(l0:a0.length<=2^63-1)(l4_1_1:a4.1.1.length<=2^63-1)(l4_1_2_2_1:a4.1.2.2.1.length<=2^63-1)(l4_1_2_2_2:a4.1.2.2.2.length<=2^63-1)(hw:a0_o+a0_n<=a0.length/\a0.length<=1048576)(hr:InR a4.1.1.length a0)(hab:0<=a1/\a1<=a2/\a2<=↑a0_n)(hlt:tN (a2 - a1) < nr+1)(ihr:∀(a0:ZL)(a0_o a0_n:Nat)(a1 a2 a3:Int)(a4:eG×Int)(l0:a0.length<=2^63-1)(l4_1_1:a4.1.1.length<=2^63-1)(l4_1_2_2_1:a4.1.2.2.1.length<=2^63-1)(l4_1_2_2_2:a4.1.2.2.2.length<=2^63-1)(hw:a0_o+a0_n<=a0.length/\a0.length<=1048576)(hr:InR a4.1.1.length a0)(hab:0<=a1/\a1<=a2/\a2<=↑a0_n),tN (a2 - a1) < nr->Con Tryz.prog 160 [(.s 0 (0+a0_o*1) a0_n 1),(iv a1),(iv a2),(iv a3),(.f 1000126 [(.a [(.p 1 0),(iv a4.2)])])] [(.live true true (flat c3 a0)),(.live false false [(.s 2 0 a4.1.1.length 10),(iv a4.1.2.1),(.s 0 0 a0.length 1),(.s 3 0 a4.1.2.2.2.length 8)]),(.live false true (flat dI a4.1.1)),(.live false true (flat cR a4.1.2.2.2))] (.t []) [] [(.live true true (flat c3 (aX nr a0 a0_o a0_n a1 a2 a3 a4))),.un,.un,.un]) {cx:Cx} (hcx:cx.base=4)
 (n0:Nat) (g0:∀(v1:ZL) (v2 v3 v4:Int) (v5 v6:Bool),(v1.length=a0.length)/\(InR a4.1.1.length v1)/\(a1<=v2)/\(v2<=v3)/\(v3<=a2)->tN (v3 - v2) < n0->gG Tryz.f160 cx (.t []) [] [(.live true true (flat c3 (aG (bS (aX nr) a0 a0_o a0_n a1 a2 a3 a4) n0 (v1,v2,v3,v4,v5,v6)))),.un,.un,.un] (.l cK.1 n0::cK.2) (eI nr a0 a0_o a0_n a1 a2 a3 a4 (flat c3 v1) v1.length v2 v3 v4 v5 v6)) (v23:ZL) (v24 v25 v26:Int) (v27 v28:Bool) (v29 v30:Int):(v23.length=a0.length)/\(InR a4.1.1.length v23)/\(a1<=v24)/\(v24<=v25)/\(v25<=a2)/\(v29=v25 - v24)/\(13<=v29)/\(v24<=v30)/\(v30 < v25)/\((v23.length=a0.length))/\((InR a4.1.1.length v23))/\((a1<=v24))/\((v24<=v25))/\((v25<=a2))/\(tN (v25 - v24) < n0+1)->gG Tryz.f160 cx (.t []) [] [(.live true true (flat c3 (bN (bS (aX nr) a0 a0_o a0_n a1 a2 a3 a4) n0 (bU (aX nr) a0 a0_o a0_n a1 a2 a3 a4 (v23,v24,v25,v26,v27,v28,v29,v30))))),.un,.un,.un] (.c iI::iJ n0) (gZ nr a0 a0_o a0_n a1 a2 a3 a4 (flat c3 v23) v23.length v24 v25 v26 v27 v28 v29 v30):=by
 intro hi;have hpe:=aXt (N:=a4.1.1.length) (v:=v23) (o:=a0_o) (n:=a0_n) (a:=v24) (b:=v25) (c:=((a4.1.1,a4.1.2.1,(v23,a4.1.2.2.2)),a4.2)) (q:=v30) oM hi.2.1 oM;obtain⟨hpe1,hpe2,hpe3⟩:=hpe;have hw_1:=aH (n:=v24 - 1) oM oM;rw [bU];cases h0:(decide ((v24:Int) > 0))
 case true=>
  have q0:=eS h0;let t1:SL:=[.d h0,.i (W (v24 - 1)) a0_n,cL aF v23 a0_o (W (v24 - 1)) 0 1,.i v30 a0_n,cL aF v23 a0_o v30 0 1,.c [1,2,0,3] (vB ((a4.1.1,a4.1.2.1,(v23,a4.1.2.2.2)),a4.2) (v23.getD (a0_o+tN (W (v24 - 1))) dF) (v23.getD (a0_o+tN v30) dF) oM (by(try simp only [Lt]);omega) oM (hi.2.1.at oM) (hi.2.1.at oM))];cases h1:(!(decide (((iC ((a4.1.1,a4.1.2.1,(v23,a4.1.2.2.2)),a4.2) (v23.getD (a0_o+tN (W (v24 - 1))) dF) (v23.getD (a0_o+tN v30) dF)):Int) < 0)))
  case true=>
   refine bA n0 (t1++[.d h1,.c [0,1,2,3] (aKf v23 a0_o a0_n v24 v25 v30 ((a4.1.1,a4.1.2.1,(v23,a4.1.2.2.2)),a4.2) oM oM (by(try simp only [Lt]);omega) oM oM hi.2.1 oM)]) [0,1,2,3,4,10,11] [] hcx cK (eI nr a0 a0_o a0_n a1 a2 a3 a4 (flat c3 (dA v23 a0_o a0_n v24 v25 v30 ((a4.1.1,a4.1.2.1,(v23,a4.1.2.2.2)),a4.2)).2) (v23.length) ((dA v23 a0_o a0_n v24 v25 v30 ((a4.1.1,a4.1.2.1,(v23,a4.1.2.2.2)),a4.2)).1) v25 v26 v27 v28) ?_;have z0:v23.length=(dA v23 a0_o a0_n v24 v25 v30 ((a4.1.1,a4.1.2.1,(v23,a4.1.2.2.2)),a4.2)).2.length:=by first | omega | (simp;done)
   rw [z0];exact g0 ((dA v23 a0_o a0_n v24 v25 v30 ((a4.1.1,a4.1.2.1,(v23,a4.1.2.2.2)),a4.2)).2) ((dA v23 a0_o a0_n v24 v25 v30 ((a4.1.1,a4.1.2.1,(v23,a4.1.2.2.2)),a4.2)).1) v25 v26 v27 v28 (by and_intros<;>(try simp only [Lt])<;>first | omega | assumption | exact hi.2.1 | exact hi.2.2.1 | exact InR.swap hi.2.1 oM oM | exact InR.swap hr oM oM | exact hbk2 | exact hrv2 | exact hpi2 | exact hpe3 | exact hpa3 | exact hrc1b | exact hrc2b) oM
  refine ga (t1++[.d h1,.z 20]) [] [0,1,2,3,4,12,13] [] hcx mZ (nA n0) (lP nr a0 a0_o a0_n a1 a2 a3 a4 (flat c3 v23) (v23.length) v24 v25 v26 v29 v30) oK ?_;exact sM nr a0 a0_o a0_n a1 a2 a3 a4 l0 l4_1_1 l4_1_2_2_1 l4_1_2_2_2 hw hr hab hlt ihr hcx n0 g0 v23 v24 v25 v26 v29 v30 (by and_intros<;>(try simp only [Lt])<;>first | omega | assumption | exact hi.2.1 | exact hi.2.2.1 | exact InR.swap hi.2.1 oM oM | exact InR.swap hr oM oM | exact hbk2 | exact hrv2 | exact hpi2 | exact hpe3 | exact hpa3 | exact hrc1b | exact hrc2b)
 refine ga [.d h0,.z 20] [] [0,1,2,3,4,12,13] [] hcx mZ (nA n0) (lP nr a0 a0_o a0_n a1 a2 a3 a4 (flat c3 v23) (v23.length) v24 v25 v26 v29 v30) oK ?_;exact sM nr a0 a0_o a0_n a1 a2 a3 a4 l0 l4_1_1 l4_1_2_2_1 l4_1_2_2_2 hw hr hab hlt ihr hcx n0 g0 v23 v24 v25 v26 v29 v30 (by and_intros<;>(try simp only [Lt])<;>first | omega | assumption | exact hi.2.1 | exact hi.2.2.1 | exact InR.swap hi.2.1 oM oM | exact InR.swap hr oM oM | exact hbk2 | exact hrv2 | exact hpi2 | exact hpe3 | exact hpa3 | exact hrc1b | exact hrc2b)
theorem sN (nr:Nat)(a0:ZL)(a0_o a0_n:Nat)(a1 a2 a3:Int)(a4:eG×Int)(l0:a0.length<=2^63-1)(l4_1_1:a4.1.1.length<=2^63-1)(l4_1_2_2_1:a4.1.2.2.1.length<=2^63-1)(l4_1_2_2_2:a4.1.2.2.2.length<=2^63-1)(hw:a0_o+a0_n<=a0.length/\a0.length<=1048576)(hr:InR a4.1.1.length a0)(hab:0<=a1/\a1<=a2/\a2<=↑a0_n)(hlt:tN (a2 - a1) < nr+1)(ihr:∀(a0:ZL)(a0_o a0_n:Nat)(a1 a2 a3:Int)(a4:eG×Int)(l0:a0.length<=2^63-1)(l4_1_1:a4.1.1.length<=2^63-1)(l4_1_2_2_1:a4.1.2.2.1.length<=2^63-1)(l4_1_2_2_2:a4.1.2.2.2.length<=2^63-1)(hw:a0_o+a0_n<=a0.length/\a0.length<=1048576)(hr:InR a4.1.1.length a0)(hab:0<=a1/\a1<=a2/\a2<=↑a0_n),tN (a2 - a1) < nr->Con Tryz.prog 160 [(.s 0 (0+a0_o*1) a0_n 1),(iv a1),(iv a2),(iv a3),(.f 1000126 [(.a [(.p 1 0),(iv a4.2)])])] [(.live true true (flat c3 a0)),(.live false false [(.s 2 0 a4.1.1.length 10),(iv a4.1.2.1),(.s 0 0 a0.length 1),(.s 3 0 a4.1.2.2.2.length 8)]),(.live false true (flat dI a4.1.1)),(.live false true (flat cR a4.1.2.2.2))] (.t []) [] [(.live true true (flat c3 (aX nr a0 a0_o a0_n a1 a2 a3 a4))),.un,.un,.un]) {cx:Cx} (hcx:cx.base=4)
 (n0:Nat) (g0:∀(v1:ZL) (v2 v3 v4:Int) (v5 v6:Bool),(v1.length=a0.length)/\(InR a4.1.1.length v1)/\(a1<=v2)/\(v2<=v3)/\(v3<=a2)->tN (v3 - v2) < n0->gG Tryz.f160 cx (.t []) [] [(.live true true (flat c3 (aG (bS (aX nr) a0 a0_o a0_n a1 a2 a3 a4) n0 (v1,v2,v3,v4,v5,v6)))),.un,.un,.un] (.l cK.1 n0::cK.2) (eI nr a0 a0_o a0_n a1 a2 a3 a4 (flat c3 v1) v1.length v2 v3 v4 v5 v6)) (v14:ZL) (v15 v16 v17:Int) (v18 v19:Bool) (v20 v21 v22:Int):(v14.length=a0.length)/\(InR a4.1.1.length v14)/\(a1<=v15)/\(v15<=v16)/\(v16<=a2)/\(v20=v16 - v15)/\(13<=v20)/\(v15<=v21)/\(v21 < v16)/\((v14.length=a0.length))/\((InR a4.1.1.length v14))/\((a1<=v15))/\((v15<=v16))/\((v16<=a2))/\(tN (v16 - v15) < n0+1)->gG Tryz.f160 cx (.t []) [] [(.live true true (flat c3 (bN (bS (aX nr) a0 a0_o a0_n a1 a2 a3 a4) n0 (bI (aX nr) a0 a0_o a0_n a1 a2 a3 a4 (v14,v15,v16,v17,v18,v19,v20,v21,v22))))),.un,.un,.un] (.c nB::nC n0) (lQ nr a0 a0_o a0_n a1 a2 a3 a4 (flat c3 v14) v14.length v15 v16 v17 v18 v19 v20 v21 v22):=by
 intro hi;have hpi:=aXr (N:=a4.1.1.length) (v:=v14) (o:=a0_o) (n:=a0_n) (a:=v15) (b:=v16) (c:=((a4.1.1,a4.1.2.1,(v14,a4.1.2.2.2)),a4.2)) oM hi.2.1 oM;obtain⟨hpi1,hpi2⟩:=hpi;rcases aG7 v18 with h0 | h0
 ·skip
  let t1:SL:=[.d h0];rcases aG7 v19 with h1 | h1
  ·skip
   let t2:SL:=t1++[.d h1];cases h2:((v22:Int) == 1)
   case true=>
    let t3:SL:=t2++[.d h2,.c [0,1,2,3] (aKg v14 a0_o a0_n v15 v16 ((a4.1.1,a4.1.2.1,(v14,a4.1.2.2.2)),a4.2) oM oM (by(try simp only [Lt]);omega) oM oM hi.2.1 oM)];cases h3:(cM v14 a0_o a0_n v15 v16 ((a4.1.1,a4.1.2.1,(v14,a4.1.2.2.2)),a4.2)).1
    case true=>
     have e:=Eq.refl (bI (aX nr) a0 a0_o a0_n a1 a2 a3 a4 (v14,v15,v16,v17,v18,v19,v20,v21,v22));(conv at e=>rhs;simp only [bI,h0,h1,h2,h3,vF]);rw [e]
     try dsimp only [bN]
     try dsimp only
     try rw [show List.length (α:=Int) (cM v14 a0_o a0_n v15 v16 ((a4.1.1,a4.1.2.1,(v14,a4.1.2.2.2)),a4.2)).2=v14.length from by first | simp;done | omega]
     exact zE (t3++[.d h3]) [] [0] [] hcx oK
    have e:bI (aX nr) a0 a0_o a0_n a1 a2 a3 a4 (v14,v15,v16,v17,v18,v19,v20,v21,v22)=(bU (aX nr) a0 a0_o a0_n a1 a2 a3 a4 ((cM v14 a0_o a0_n v15 v16 ((a4.1.1,a4.1.2.1,(v14,a4.1.2.2.2)),a4.2)).2,v15,v16,v17,v18,v19,v20,v21)):=by simp only [bI,h0,h1,h2,h3,vF]
    rw [e];refine ga (t3++[.d h3,.z 17]) [] [0,1,2,3,4,10,11,12,13] [] hcx iI (iJ n0) (gZ nr a0 a0_o a0_n a1 a2 a3 a4 (flat c3 (cM v14 a0_o a0_n v15 v16 ((a4.1.1,a4.1.2.1,(v14,a4.1.2.2.2)),a4.2)).2) (v14.length) v15 v16 v17 v18 v19 v20 v21) oK ?_;have z0:v14.length=(cM v14 a0_o a0_n v15 v16 ((a4.1.1,a4.1.2.1,(v14,a4.1.2.2.2)),a4.2)).2.length:=by first | omega | (simp;done)
    rw [z0];exact kC nr a0 a0_o a0_n a1 a2 a3 a4 l0 l4_1_1 l4_1_2_2_1 l4_1_2_2_2 hw hr hab hlt ihr hcx n0 g0 ((cM v14 a0_o a0_n v15 v16 ((a4.1.1,a4.1.2.1,(v14,a4.1.2.2.2)),a4.2)).2) v15 v16 v17 v18 v19 v20 v21 (by and_intros<;>(try simp only [Lt])<;>first | omega | assumption | exact hi.2.1 | exact hi.2.2.1 | exact InR.swap hi.2.1 oM oM | exact InR.swap hr oM oM | exact hbk2 | exact hrv2 | exact hpi2 | exact hpe3 | exact hpa3 | exact hrc1b | exact hrc2b)
   have e:bI (aX nr) a0 a0_o a0_n a1 a2 a3 a4 (v14,v15,v16,v17,v18,v19,v20,v21,v22)=(bU (aX nr) a0 a0_o a0_n a1 a2 a3 a4 (v14,v15,v16,v17,v18,v19,v20,v21)):=by simp only [bI,h0,h1,h2,vF]
   rw [e];refine ga (t2++[.d h2,.z 17]) [] [0,1,2,3,4,10,11,12,13] [] hcx iI (iJ n0) (gZ nr a0 a0_o a0_n a1 a2 a3 a4 (flat c3 v14) (v14.length) v15 v16 v17 v18 v19 v20 v21) oK ?_;exact kC nr a0 a0_o a0_n a1 a2 a3 a4 l0 l4_1_1 l4_1_2_2_1 l4_1_2_2_2 hw hr hab hlt ihr hcx n0 g0 v14 v15 v16 v17 v18 v19 v20 v21 (by and_intros<;>(try simp only [Lt])<;>first | omega | assumption | exact hi.2.1 | exact hi.2.2.1 | exact InR.swap hi.2.1 oM oM | exact InR.swap hr oM oM | exact hbk2 | exact hrv2 | exact hpi2 | exact hpe3 | exact hpa3 | exact hrc1b | exact hrc2b)
  ·skip
   have e:bI (aX nr) a0 a0_o a0_n a1 a2 a3 a4 (v14,v15,v16,v17,v18,v19,v20,v21,v22)=(bU (aX nr) a0 a0_o a0_n a1 a2 a3 a4 (v14,v15,v16,v17,v18,v19,v20,v21)):=by simp only [bI,h0,h1,vF]
   rw [e];refine ga (t1++[.d h1,.z 17]) [] [0,1,2,3,4,10,11,12,13] [] hcx iI (iJ n0) (gZ nr a0 a0_o a0_n a1 a2 a3 a4 (flat c3 v14) (v14.length) v15 v16 v17 v18 v19 v20 v21) oK ?_;exact kC nr a0 a0_o a0_n a1 a2 a3 a4 l0 l4_1_1 l4_1_2_2_1 l4_1_2_2_2 hw hr hab hlt ihr hcx n0 g0 v14 v15 v16 v17 v18 v19 v20 v21 (by and_intros<;>(try simp only [Lt])<;>first | omega | assumption | exact hi.2.1 | exact hi.2.2.1 | exact InR.swap hi.2.1 oM oM | exact InR.swap hr oM oM | exact hbk2 | exact hrv2 | exact hpi2 | exact hpe3 | exact hpa3 | exact hrc1b | exact hrc2b)
 ·skip
  have e:bI (aX nr) a0 a0_o a0_n a1 a2 a3 a4 (v14,v15,v16,v17,v18,v19,v20,v21,v22)=(bU (aX nr) a0 a0_o a0_n a1 a2 a3 a4 (v14,v15,v16,v17,v18,v19,v20,v21)):=by simp only [bI,h0,vF]
  rw [e];refine ga [.d h0,.z 17] [] [0,1,2,3,4,10,11,12,13] [] hcx iI (iJ n0) (gZ nr a0 a0_o a0_n a1 a2 a3 a4 (flat c3 v14) (v14.length) v15 v16 v17 v18 v19 v20 v21) oK ?_;exact kC nr a0 a0_o a0_n a1 a2 a3 a4 l0 l4_1_1 l4_1_2_2_1 l4_1_2_2_2 hw hr hab hlt ihr hcx n0 g0 v14 v15 v16 v17 v18 v19 v20 v21 (by and_intros<;>(try simp only [Lt])<;>first | omega | assumption | exact hi.2.1 | exact hi.2.2.1 | exact InR.swap hi.2.1 oM oM | exact InR.swap hr oM oM | exact hbk2 | exact hrv2 | exact hpi2 | exact hpe3 | exact hpa3 | exact hrc1b | exact hrc2b)
theorem sO (nr:Nat)(a0:ZL)(a0_o a0_n:Nat)(a1 a2 a3:Int)(a4:eG×Int)(l0:a0.length<=2^63-1)(l4_1_1:a4.1.1.length<=2^63-1)(l4_1_2_2_1:a4.1.2.2.1.length<=2^63-1)(l4_1_2_2_2:a4.1.2.2.2.length<=2^63-1)(hw:a0_o+a0_n<=a0.length/\a0.length<=1048576)(hr:InR a4.1.1.length a0)(hab:0<=a1/\a1<=a2/\a2<=↑a0_n)(hlt:tN (a2 - a1) < nr+1)(ihr:∀(a0:ZL)(a0_o a0_n:Nat)(a1 a2 a3:Int)(a4:eG×Int)(l0:a0.length<=2^63-1)(l4_1_1:a4.1.1.length<=2^63-1)(l4_1_2_2_1:a4.1.2.2.1.length<=2^63-1)(l4_1_2_2_2:a4.1.2.2.2.length<=2^63-1)(hw:a0_o+a0_n<=a0.length/\a0.length<=1048576)(hr:InR a4.1.1.length a0)(hab:0<=a1/\a1<=a2/\a2<=↑a0_n),tN (a2 - a1) < nr->Con Tryz.prog 160 [(.s 0 (0+a0_o*1) a0_n 1),(iv a1),(iv a2),(iv a3),(.f 1000126 [(.a [(.p 1 0),(iv a4.2)])])] [(.live true true (flat c3 a0)),(.live false false [(.s 2 0 a4.1.1.length 10),(iv a4.1.2.1),(.s 0 0 a0.length 1),(.s 3 0 a4.1.2.2.2.length 8)]),(.live false true (flat dI a4.1.1)),(.live false true (flat cR a4.1.2.2.2))] (.t []) [] [(.live true true (flat c3 (aX nr a0 a0_o a0_n a1 a2 a3 a4))),.un,.un,.un]) {cx:Cx} (hcx:cx.base=4)
 (n0:Nat) (g0:∀(v1:ZL) (v2 v3 v4:Int) (v5 v6:Bool),(v1.length=a0.length)/\(InR a4.1.1.length v1)/\(a1<=v2)/\(v2<=v3)/\(v3<=a2)->tN (v3 - v2) < n0->gG Tryz.f160 cx (.t []) [] [(.live true true (flat c3 (aG (bS (aX nr) a0 a0_o a0_n a1 a2 a3 a4) n0 (v1,v2,v3,v4,v5,v6)))),.un,.un,.un] (.l cK.1 n0::cK.2) (eI nr a0 a0_o a0_n a1 a2 a3 a4 (flat c3 v1) v1.length v2 v3 v4 v5 v6)) (v7:ZL) (v8 v9 v10:Int) (v11 v12:Bool) (v13:Int):(v7.length=a0.length)/\(InR a4.1.1.length v7)/\(a1<=v8)/\(v8<=v9)/\(v9<=a2)/\(v13=v9 - v8)/\(13<=v13)/\((v7.length=a0.length))/\((InR a4.1.1.length v7))/\((a1<=v8))/\((v8<=v9))/\((v9<=a2))/\(tN (v9 - v8) < n0+1)->gG Tryz.f160 cx (.t []) [] [(.live true true (flat c3 (bN (bS (aX nr) a0 a0_o a0_n a1 a2 a3 a4) n0 (eM (aX nr) a0 a0_o a0_n a1 a2 a3 a4 (v7,v8,v9,v10,v11,v12,v13))))),.un,.un,.un] (.c nD::nE n0) (lR nr a0 a0_o a0_n a1 a2 a3 a4 (flat c3 v7) v7.length v8 v9 v10 v11 v12 v13):=by
 intro hi;have hrv:=aXp (N:=a4.1.1.length) (v:=v7) (o:=a0_o) (n:=a0_n) (a:=v8) (b:=v9) (c:=((a4.1.1,a4.1.2.1,(v7,a4.1.2.2.2)),a4.2)) oM hi.2.1 oM;obtain⟨hrv1,hrv2⟩:=hrv;have hcp:=aXq (v:=v7) (o:=a0_o) (n:=a0_n) (a:=v8) (b:=v9) (c:=((a4.1.1,a4.1.2.1,(v7,a4.1.2.2.2)),a4.2)) oM oM;have hw_1:=aH (n:=v9 - 1) oM oM;have hw_2:=aH (n:=(bR v7 a0_o a0_n v8 v9 ((a4.1.1,a4.1.2.1,(v7,a4.1.2.2.2)),a4.2)).1 - v8) oM oM;have hw_3:=aH (n:=(W (v9 - 1)) - (W ((bR v7 a0_o a0_n v8 v9 ((a4.1.1,a4.1.2.1,(v7,a4.1.2.2.2)),a4.2)).1 - v8))) oM oM;let t0:SL:=[.c [0,1,2,3] (aKj v7 a0_o a0_n v8 v9 ((a4.1.1,a4.1.2.1,(v7,a4.1.2.2.2)),a4.2) oM oM (by(try simp only [Lt]);omega) oM oM hi.2.1 oM)];rw [eM];cases h0:(((bR v7 a0_o a0_n v8 v9 ((a4.1.1,a4.1.2.1,(v7,a4.1.2.2.2)),a4.2)).2:Int) == 2)
 case true=>
  refine ga (t0++[.d h0,.c [0,1,2,3] (aKd v7 a0_o a0_n v8 v9 ((a4.1.1,a4.1.2.1,(v7,a4.1.2.2.2)),a4.2) oM oM (by(try simp only [Lt]);omega) oM oM hi.2.1 oM),.z 15]) [] [0,1,2,3,4,10,11,12,13,14] [] hcx nB (nC n0) (lQ nr a0 a0_o a0_n a1 a2 a3 a4 (flat c3 (fI v7 a0_o a0_n v8 v9 ((a4.1.1,a4.1.2.1,(v7,a4.1.2.2.2)),a4.2))) (v7.length) v8 v9 v10 v11 v12 v13 (W ((W (v9 - 1)) - (W ((bR v7 a0_o a0_n v8 v9 ((a4.1.1,a4.1.2.1,(v7,a4.1.2.2.2)),a4.2)).1 - v8)))) 1) oK ?_;have z0:v7.length=(fI v7 a0_o a0_n v8 v9 ((a4.1.1,a4.1.2.1,(v7,a4.1.2.2.2)),a4.2)).length:=by first | omega | (simp;done)
  rw [z0];exact sN nr a0 a0_o a0_n a1 a2 a3 a4 l0 l4_1_1 l4_1_2_2_1 l4_1_2_2_2 hw hr hab hlt ihr hcx n0 g0 (fI v7 a0_o a0_n v8 v9 ((a4.1.1,a4.1.2.1,(v7,a4.1.2.2.2)),a4.2)) v8 v9 v10 v11 v12 v13 (W ((W (v9 - 1)) - (W ((bR v7 a0_o a0_n v8 v9 ((a4.1.1,a4.1.2.1,(v7,a4.1.2.2.2)),a4.2)).1 - v8)))) 1 (by and_intros<;>(try simp only [Lt])<;>first | omega | assumption | exact hi.2.1 | exact hi.2.2.1 | exact InR.swap hi.2.1 oM oM | exact InR.swap hr oM oM | exact hbk2 | exact hrv2 | exact hpi2 | exact hpe3 | exact hpa3 | exact hrc1b | exact hrc2b)
 refine ga (t0++[.d h0,.z 15]) [] [0,1,2,3,4,10,11,12,13,14] [] hcx nB (nC n0) (lQ nr a0 a0_o a0_n a1 a2 a3 a4 (flat c3 v7) (v7.length) v8 v9 v10 v11 v12 v13 ((bR v7 a0_o a0_n v8 v9 ((a4.1.1,a4.1.2.1,(v7,a4.1.2.2.2)),a4.2)).1) ((bR v7 a0_o a0_n v8 v9 ((a4.1.1,a4.1.2.1,(v7,a4.1.2.2.2)),a4.2)).2)) oK ?_;exact sN nr a0 a0_o a0_n a1 a2 a3 a4 l0 l4_1_1 l4_1_2_2_1 l4_1_2_2_2 hw hr hab hlt ihr hcx n0 g0 v7 v8 v9 v10 v11 v12 v13 ((bR v7 a0_o a0_n v8 v9 ((a4.1.1,a4.1.2.1,(v7,a4.1.2.2.2)),a4.2)).1) ((bR v7 a0_o a0_n v8 v9 ((a4.1.1,a4.1.2.1,(v7,a4.1.2.2.2)),a4.2)).2) (by and_intros<;>(try simp only [Lt])<;>first | omega | assumption | exact hi.2.1 | exact hi.2.2.1 | exact InR.swap hi.2.1 oM oM | exact InR.swap hr oM oM | exact hbk2 | exact hrv2 | exact hpi2 | exact hpe3 | exact hpa3 | exact hrc1b | exact hrc2b)
theorem aFp (nr:Nat)(a0:ZL)(a0_o a0_n:Nat)(a1 a2 a3:Int)(a4:eG×Int)(l0:a0.length<=2^63-1)(l4_1_1:a4.1.1.length<=2^63-1)(l4_1_2_2_1:a4.1.2.2.1.length<=2^63-1)(l4_1_2_2_2:a4.1.2.2.2.length<=2^63-1)(hw:a0_o+a0_n<=a0.length/\a0.length<=1048576)(hr:InR a4.1.1.length a0)(hab:0<=a1/\a1<=a2/\a2<=↑a0_n)(hlt:tN (a2 - a1) < nr+1)(ihr:∀(a0:ZL)(a0_o a0_n:Nat)(a1 a2 a3:Int)(a4:eG×Int)(l0:a0.length<=2^63-1)(l4_1_1:a4.1.1.length<=2^63-1)(l4_1_2_2_1:a4.1.2.2.1.length<=2^63-1)(l4_1_2_2_2:a4.1.2.2.2.length<=2^63-1)(hw:a0_o+a0_n<=a0.length/\a0.length<=1048576)(hr:InR a4.1.1.length a0)(hab:0<=a1/\a1<=a2/\a2<=↑a0_n),tN (a2 - a1) < nr->Con Tryz.prog 160 [(.s 0 (0+a0_o*1) a0_n 1),(iv a1),(iv a2),(iv a3),(.f 1000126 [(.a [(.p 1 0),(iv a4.2)])])] [(.live true true (flat c3 a0)),(.live false false [(.s 2 0 a4.1.1.length 10),(iv a4.1.2.1),(.s 0 0 a0.length 1),(.s 3 0 a4.1.2.2.2.length 8)]),(.live false true (flat dI a4.1.1)),(.live false true (flat cR a4.1.2.2.2))] (.t []) [] [(.live true true (flat c3 (aX nr a0 a0_o a0_n a1 a2 a3 a4))),.un,.un,.un]) {cx:Cx} (hcx:cx.base=4):∀(n:Nat) (v1:ZL) (v2 v3 v4:Int) (v5 v6:Bool),(v1.length=a0.length)/\(InR a4.1.1.length v1)/\(a1<=v2)/\(v2<=v3)/\(v3<=a2)->tN (v3 - v2) < n->gG Tryz.f160 cx (.t []) [] [(.live true true (flat c3 (aG (bS (aX nr) a0 a0_o a0_n a1 a2 a3 a4) n (v1,v2,v3,v4,v5,v6)))),.un,.un,.un] (.l cK.1 n::cK.2) (eI nr a0 a0_o a0_n a1 a2 a3 a4 (flat c3 v1) v1.length v2 v3 v4 v5 v6):=by
 intro n
 induction n with|zero=>intro v1 v2 v3 v4 v5 v6 hi hn;exact absurd hn (dX _)|succ n ih=>?_
 intro v1 v2 v3 v4 v5 v6 hi hn;refine aN ?_;have hw_l:=aH (n:=v3 - v2) oM oM;have hbk:=aXo (N:=a4.1.1.length) (v:=v1) (o:=a0_o) (n:=a0_n) (a:=v2) (b:=v3) (c:=((a4.1.1,a4.1.2.1,(v1,a4.1.2.2.2)),a4.2)) oM hi.2.1 oM;obtain⟨hbk1,hbk2⟩:=hbk;rw [aZ,bS];cases h0:(decide (((W (v3 - v2)):Int)<=12))
 case true=>
  have q0:=eS h0
  try dsimp only [bN]
  try dsimp only
  try rw [show List.length (α:=Int) (jG v1 a0_o a0_n v2 v3 ((a4.1.1,a4.1.2.1,(v1,a4.1.2.2.2)),a4.2))=v1.length from by first | simp;done | omega]
  exact zE [.d h0,.c [0,1,2,3] (aKc v1 a0_o a0_n v2 v3 ((a4.1.1,a4.1.2.1,(v1,a4.1.2.2.2)),a4.2) oM oM (by(try simp only [Lt]);omega) oM oM hi.2.1 oM)] [] [0] [] hcx oK
 have q0:=iF h0;let t1:SL:=[.d h0];cases h1:((v4:Int) == 0)
 case true=>
  try dsimp only [bN]
  try dsimp only
  try rw [show List.length (α:=Int) (jI v1 a0_o a0_n v2 v3 ((a4.1.1,a4.1.2.1,(v1,a4.1.2.2.2)),a4.2))=v1.length from by first | simp;done | omega]
  exact zE (t1++[.d h1,.c [0,1,2,3] (aKh v1 a0_o a0_n v2 v3 ((a4.1.1,a4.1.2.1,(v1,a4.1.2.2.2)),a4.2) oM oM (by(try simp only [Lt]);omega) oM oM hi.2.1 oM)]) [] [0] [] hcx oK
 let t2:SL:=t1++[.d h1];cases h2:(!v5)
 case true=>
  refine ga (t2++[.d h2,.c [0,1,2,3] (aKm v1 a0_o a0_n v2 v3 ((a4.1.1,a4.1.2.1,(v1,a4.1.2.2.2)),a4.2) oM oM (by(try simp only [Lt]);omega) oM oM hi.2.1 oM),.z 10]) [] [0,1,2,3,4,10,11,12] [] hcx nD (nE n) (lR nr a0 a0_o a0_n a1 a2 a3 a4 (flat c3 (fJ v1 a0_o a0_n v2 v3 ((a4.1.1,a4.1.2.1,(v1,a4.1.2.2.2)),a4.2))) (v1.length) v2 v3 (W (v4 - 1)) v5 v6 (W (v3 - v2))) oK ?_;have z0:v1.length=(fJ v1 a0_o a0_n v2 v3 ((a4.1.1,a4.1.2.1,(v1,a4.1.2.2.2)),a4.2)).length:=by first | omega | (simp;done)
  rw [z0];exact sO nr a0 a0_o a0_n a1 a2 a3 a4 l0 l4_1_1 l4_1_2_2_1 l4_1_2_2_2 hw hr hab hlt ihr hcx n ih (fJ v1 a0_o a0_n v2 v3 ((a4.1.1,a4.1.2.1,(v1,a4.1.2.2.2)),a4.2)) v2 v3 (W (v4 - 1)) v5 v6 (W (v3 - v2)) (by and_intros<;>(try simp only [Lt])<;>first | omega | assumption | exact hi.2.1 | exact hi.2.2.1 | exact InR.swap hi.2.1 oM oM | exact InR.swap hr oM oM | exact hbk2 | exact hrv2 | exact hpi2 | exact hpe3 | exact hpa3 | exact hrc1b | exact hrc2b)
 refine ga (t2++[.d h2,.z 10]) [] [0,1,2,3,4,10,11,12] [] hcx nD (nE n) (lR nr a0 a0_o a0_n a1 a2 a3 a4 (flat c3 v1) (v1.length) v2 v3 v4 v5 v6 (W (v3 - v2))) oK ?_;exact sO nr a0 a0_o a0_n a1 a2 a3 a4 l0 l4_1_1 l4_1_2_2_1 l4_1_2_2_2 hw hr hab hlt ihr hcx n ih v1 v2 v3 v4 v5 v6 (W (v3 - v2)) (by and_intros<;>(try simp only [Lt])<;>first | omega | assumption | exact hi.2.1 | exact hi.2.2.1 | exact InR.swap hi.2.1 oM oM | exact InR.swap hr oM oM | exact hbk2 | exact hrv2 | exact hpi2 | exact hpe3 | exact hpa3 | exact hrc1b | exact hrc2b)
theorem aHu:∀(nr:Nat) (a0:ZL) (a0_o a0_n:Nat) (a1 a2 a3:Int) (a4:eG×Int) (l0:a0.length<=2^63-1) (l4_1_1:a4.1.1.length<=2^63-1) (l4_1_2_2_1:a4.1.2.2.1.length<=2^63-1) (l4_1_2_2_2:a4.1.2.2.2.length<=2^63-1) (hw:a0_o+a0_n<=a0.length/\a0.length<=1048576) (hr:InR a4.1.1.length a0) (hab:0<=a1/\a1<=a2/\a2<=↑a0_n),tN (a2 - a1) < nr->Con Tryz.prog 160 [(.s 0 (0+a0_o*1) a0_n 1),(iv a1),(iv a2),(iv a3),(.f 1000126 [(.a [(.p 1 0),(iv a4.2)])])] [(.live true true (flat c3 a0)),(.live false false [(.s 2 0 a4.1.1.length 10),(iv a4.1.2.1),(.s 0 0 a0.length 1),(.s 3 0 a4.1.2.2.2.length 8)]),(.live false true (flat dI a4.1.1)),(.live false true (flat cR a4.1.2.2.2))] (.t []) [] [(.live true true (flat c3 (aX nr a0 a0_o a0_n a1 a2 a3 a4))),.un,.un,.un]:=by
 intro nr
 induction nr with
 | zero=>intro a0 a0_o a0_n a1 a2 a3 a4 l0 l4_1_1 l4_1_2_2_1 l4_1_2_2_2 hw hr hab hlt;exact absurd hlt (dX _)
 | succ nr ihr =>
 intro a0 a0_o a0_n a1 a2 a3 a4 l0 l4_1_1 l4_1_2_2_1 l4_1_2_2_2 hw hr hab hlt;refine cS Tryz.func160 fun cx hcx=>?_
 refine eN [] [0,1,2,3,4,10,11] [] hcx cK (eI nr a0 a0_o a0_n a1 a2 a3 a4 (flat c3 a0) (a0.length) a1 a2 a3 true true) (tN (a2 - a1)+1) ?_;exact aFp nr a0 a0_o a0_n a1 a2 a3 a4 l0 l4_1_1 l4_1_2_2_1 l4_1_2_2_2 hw hr hab hlt ihr hcx (tN (a2 - a1)+1) a0 a1 a2 a3 true true (by and_intros<;>(try simp only [Lt])<;>first | omega | assumption | exact hi.2.1 | exact hi.2.2.1 | exact InR.swap hi.2.1 oM oM | exact InR.swap hr oM oM | exact hbk2 | exact hrv2 | exact hpi2 | exact hpe3 | exact hpa3 | exact hrc1b | exact hrc2b) oM
theorem aKn (a0:ZL)(a0_o a0_n:Nat)(a1 a2 a3:Int)(a4:eG×Int)(l0:a0.length<=2^63-1)(l4_1_1:a4.1.1.length<=2^63-1)(l4_1_2_2_1:a4.1.2.2.1.length<=2^63-1)(l4_1_2_2_2:a4.1.2.2.2.length<=2^63-1)(hw:a0_o+a0_n<=a0.length/\a0.length<=1048576)(hr:InR a4.1.1.length a0)(hab:0<=a1/\a1<=a2/\a2<=↑a0_n):Con Tryz.prog 160 [(.s 0 (0+a0_o*1) a0_n 1),(iv a1),(iv a2),(iv a3),(.f 1000126 [(.a [(.p 1 0),(iv a4.2)])])] [(.live true true (flat c3 a0)),(.live false false [(.s 2 0 a4.1.1.length 10),(iv a4.1.2.1),(.s 0 0 a0.length 1),(.s 3 0 a4.1.2.2.2.length 8)]),(.live false true (flat dI a4.1.1)),(.live false true (flat cR a4.1.2.2.2))] (.t []) [] [(.live true true (flat c3 (pJ a0 a0_o a0_n a1 a2 a3 a4))),.un,.un,.un]:=aHu (tN (a2 - a1)+1) a0 a0_o a0_n a1 a2 a3 a4 l0 l4_1_1 l4_1_2_2_1 l4_1_2_2_2 hw hr hab (lss _)
end Go.Proofs.YtlffahoikfahlaaGreat
namespace Go.Proofs.YtlffahoikfahlaaGreat
open Go.Proofs Go.Aw Go.RowKit
set_option maxRecDepth 100000
section
open Go.Sort
variable {o n : Nat} {l l0 : ZL} {c : sL} {nr m : Nat} {a1 a2 a3 : Int}
def PqT (l:ZL)(o n:Nat)(rr:ZL->Nat->Nat->Int->Int->Int->sL->ZL)(l0:ZL)(a1 a2 a3:Int)(c:sL)(m:Nat)(x:(ZL×Int×Int×Int×Bool×Bool)⊕ZL)(t:Array Int):Prop := bN (bS rr l0 o n a1 a2 a3 c) m x=wp l o t/\t.size=n
variable {rr : ZL → Nat → Nat → Int → Int → Int → sL → ZL}
 (hl:o+n<=l.length) (hn:n<=1048576)
 (Hr:∀(c:sL) (d:Array Int) (a b lim:Nat),d.size=n->a<=b->b<=n->lim<=1048576->b - a < nr->rr (wp l o d) o n (a:Int) (b:Int) (lim:Int) c=wp l o (pdq (bH c) d a b lim true true)/\(pdq (bH c) d a b lim true true).size=n)
 (Hm:∀(d:Array Int) (a b lim:Nat) (w1 w2:Bool),d.size=n->a<=b->b<=n->lim<=1048576->b - a < m->b - a<=nr->aG (bS rr l0 o n a1 a2 a3 c) m (wp l o d,(a:Int),(b:Int),(lim:Int),w1,w2)=wp l o (pdq (bH c) d a b lim w1 w2)/\(pdq (bH c) d a b lim w1 w2).size=n)
include hl hn Hr Hm
theorem bCn {d:Array Int} {a b lim q:Nat} (hd:d.size=n)(hq:a<=q/\q < b)(hb:b<=n)(hli:lim<=1048576)(hm:b - a<=m)(hnr:b - a<=nr) :
 PqT l o n rr l0 a1 a2 a3 c m (eL rr l0 o n a1 a2 a3 c (wp l o d,(a:Int),(b:Int),(lim:Int),((b - a:Nat):Int),(q:Int)))
  (match partition (bH c) d a b q with
   | (mid,alreadyPartitioned,d4) =>
    if _h:a<=mid/\mid < b then
     if mid - a < b - mid then pdq (bH c) (pdq (bH c) d4 a mid lim true true) (mid+1) b lim (decide (mid - a≥(b - a) / 8)) alreadyPartitioned
     else pdq (bH c) (pdq (bH c) d4 (mid+1) b lim true true) a mid lim (decide (b - mid≥(b - a) / 8)) alreadyPartitioned
    else d4):=by
 have hp:aJ (wp l o d) o n (a:Int) (b:Int) (q:Int) ((c.1.1,c.1.2.1,(wp l o d,c.1.2.2.2)),c.2)=_:=aS2 (l:=l) (c:=((c.1.1,c.1.2.1,(wp l o d,c.1.2.2.2)),c.2)) hl hn hd hq.1 hq.2 hb;obtain⟨r1,r2,r3,_⟩:=partition_holds (lt:=bH c) (nL c) d a b q hq.1 hq.2 oM;have hp':aJ (wp l o d) o n (a:Int) (b:Int) (q:Int) ((c.1.1,c.1.2.1,(wp l o d,c.1.2.2.2)),c.2)=(((partition (bH c) d a b q).1:Int),(partition (bH c) d a b q).2.1,wp l o (partition (bH c) d a b q).2.2):=hp;clear hp;generalize partition (bH c) d a b q=pt at hp' r1 r2 r3 ⊢;obtain⟨mid,ap,d4⟩:=pt;dsimp only at hp' r1 r2 r3 ⊢;have hd4:d4.size=n:=by rw [r3.1];exact hd
 rw [dif_pos ⟨r1,r2⟩];have e8:W (tD ((b - a:Nat):Int) 8)=(((b - a) / 8:Nat):Int):=by rw [Int.tdiv_eq_ediv_of_nonneg oM];exact wN oM oM
 unfold PqT;simp only [eL,hp',e8,wN (x:=(mid:Int) - (a:Int)) (n:=mid - a) oM oM,wN (x:=(b:Int) - (mid:Int)) (n:=b - mid) oM oM,wN (x:=(mid:Int)+1) (n:=mid+1) oM oM];by_cases h:mid - a < b - mid
 ·rw [bX (show((mid - a:Nat):Int) < ((b - mid:Nat):Int) by omega),cond_true,if_pos h];have h1:=Hr ((c.1.1,c.1.2.1,(wp l o d4,c.1.2.2.2)),c.2) d4 a mid lim hd4 r1 oM hli oM;rw [h1.1];have hd5:decide (((mid - a:Nat):Int)≥(((b - a) / 8:Nat):Int))=decide (mid - a≥(b - a) / 8):=by
   by_cases h8:mid - a≥(b - a) / 8
   ·rw [bX h8];exact bX oM
   ·rw [cA h8];exact cA oM
  rw [hd5];exact Hm (pdq (bH c) d4 a mid lim true true) (mid+1) b lim _ _ h1.2 oM hb hli oM oM
 ·rw [cA (show ¬((mid - a:Nat):Int) < ((b - mid:Nat):Int) by omega),cond_false,if_neg h];have h1:=Hr ((c.1.1,c.1.2.1,(wp l o d4,c.1.2.2.2)),c.2) d4 (mid+1) b lim hd4 oM hb hli oM;rw [h1.1];have hd5:decide (((b - mid:Nat):Int)≥(((b - a) / 8:Nat):Int))=decide (b - mid≥(b - a) / 8):=by
   by_cases h8:b - mid≥(b - a) / 8
   ·rw [bX h8];exact bX oM
   ·rw [cA h8];exact cA oM
  rw [hd5];exact Hm (pdq (bH c) d4 (mid+1) b lim true true) a mid lim _ _ h1.2 oM oM hli oM oM
theorem aXu {d:Array Int} {a b lim q:Nat} {w1 w2:Bool} (hd:d.size=n)(hq:a<=q/\q < b)(hb:b<=n)(hli:lim<=1048576)(hm:b - a<=m)(hnr:b - a<=nr) :
 PqT l o n rr l0 a1 a2 a3 c m (bU rr l0 o n a1 a2 a3 c (wp l o d,(a:Int),(b:Int),(lim:Int),w1,w2,((b - a:Nat):Int),(q:Int)))
  (if a > 0&&!bH c d[a - 1]! d[q]! then
   match partitionEqual (bH c) d a b q with
   | (mid,d4)=>if _h:a < mid/\mid<=b then pdq (bH c) d4 mid b lim w1 w2 else d4
  else match partition (bH c) d a b q with
   | (mid,alreadyPartitioned,d4) =>
    if _h:a<=mid/\mid < b then
     if mid - a < b - mid then pdq (bH c) (pdq (bH c) d4 a mid lim true true) (mid+1) b lim (decide (mid - a≥(b - a) / 8)) alreadyPartitioned
     else pdq (bH c) (pdq (bH c) d4 (mid+1) b lim true true) a mid lim (decide (b - mid≥(b - a) / 8)) alreadyPartitioned
    else d4):=by
 have h20:=bCn (a1:=a1) (a2:=a2) (a3:=a3) (l0:=l0) (c:=c) hl hn Hr Hm hd hq hb hli hm hnr;have hl':o+d.size<=l.length:=by omega
 unfold PqT at h20 ⊢;simp only [bU,gV];by_cases h0:a > 0
 ·rw [bX (show(a:Int) > 0 by omega),cond_true,wN (x:=(a:Int) - 1) (n:=a - 1) oM oM,iB,iB,cT hl' oM,cT hl' oM,bX h0,Bool.true_and];cases hc:bH c d[a - 1]! d[q]!
  case true=>exact h20
  rw [Bool.not_false,cond_true,if_pos rfl];have hp:dA (wp l o d) o n (a:Int) (b:Int) (q:Int) ((c.1.1,c.1.2.1,(wp l o d,c.1.2.2.2)),c.2)=(((partitionEqual (bH c) d a b q).1:Int),wp l o (partitionEqual (bH c) d a b q).2):=aS3 (l:=l) (c:=((c.1.1,c.1.2.1,(wp l o d,c.1.2.2.2)),c.2)) hl hn hd hq.1 hq.2 hb;obtain⟨r1,r2,r3⟩:=aOv (d:=d) (bH c) (a:=a) (b:=b) (q:=q) hq.1 hq.2 oM;generalize partitionEqual (bH c) d a b q=pt at hp r1 r2 r3 ⊢;obtain⟨mid,d4⟩:=pt;dsimp only at hp r1 r2 r3 ⊢;rw [dif_pos ⟨r1,r2⟩,hp];exact Hm d4 mid b lim w1 w2 (by rw [r3.1];exact hd) r2 hb hli oM oM
 ·rw [cA (show ¬(a:Int) > 0 by omega),cond_false,cA h0,Bool.false_and,if_neg Bool.false_ne_true];exact h20
theorem aTd {d:Array Int} {a b lim q:Nat} {w1 w2:Bool} {hi:Hint} (hd:d.size=n)(hq:a<=q/\q < b)(hb:b<=n)(hli:lim<=1048576)(hm:b - a<=m)(hnr:b - a<=nr) :
 PqT l o n rr l0 a1 a2 a3 c m (bI rr l0 o n a1 a2 a3 c (wp l o d,(a:Int),(b:Int),(lim:Int),w1,w2,((b - a:Nat):Int),(q:Int),aOr hi))
  (let pi:=if w1&&w2&&hi=.increasing then partialInsertionSort (bH c) d a b else(d,false)
  if pi.2 then pi.1 else
  if a > 0&&!bH c pi.1[a - 1]! pi.1[q]! then
   match partitionEqual (bH c) pi.1 a b q with
   | (mid,d4)=>if _h:a < mid/\mid<=b then pdq (bH c) d4 mid b lim w1 w2 else d4
  else match partition (bH c) pi.1 a b q with
   | (mid,alreadyPartitioned,d4) =>
    if _h:a<=mid/\mid < b then
     if mid - a < b - mid then pdq (bH c) (pdq (bH c) d4 a mid lim true true) (mid+1) b lim (decide (mid - a≥(b - a) / 8)) alreadyPartitioned
     else pdq (bH c) (pdq (bH c) d4 (mid+1) b lim true true) a mid lim (decide (b - mid≥(b - a) / 8)) alreadyPartitioned
    else d4):=by
 have h17:=aXu (a1:=a1) (a2:=a2) (a3:=a3) (l0:=l0) (c:=c) (w1:=w1) (w2:=w2) hl hn Hr Hm hd hq hb hli hm hnr;have hno:(w1&&w2&&decide (hi=.increasing))=false->PqT l o n rr l0 a1 a2 a3 c m (bU rr l0 o n a1 a2 a3 c (wp l o d,(a:Int),(b:Int),(lim:Int),w1,w2,((b - a:Nat):Int),(q:Int)))
  (let pi:=if w1&&w2&&hi=.increasing then partialInsertionSort (bH c) d a b else(d,false)
  if pi.2 then pi.1 else
  if a > 0&&!bH c pi.1[a - 1]! pi.1[q]! then
   match partitionEqual (bH c) pi.1 a b q with
   | (mid,d4)=>if _h:a < mid/\mid<=b then pdq (bH c) d4 mid b lim w1 w2 else d4
  else match partition (bH c) pi.1 a b q with
   | (mid,alreadyPartitioned,d4) =>
    if _h:a<=mid/\mid < b then
     if mid - a < b - mid then pdq (bH c) (pdq (bH c) d4 a mid lim true true) (mid+1) b lim (decide (mid - a≥(b - a) / 8)) alreadyPartitioned
     else pdq (bH c) (pdq (bH c) d4 (mid+1) b lim true true) a mid lim (decide (b - mid≥(b - a) / 8)) alreadyPartitioned
    else d4):=fun h=>by rw [h];exact h17
 simp only [bI];cases w1
 case false=>exact hno rfl
 cases w2
 case false=>exact hno rfl
 rw [cond_true,cond_true];cases hi with
 | unknown=>exact hno rfl
 | decreasing=>exact hno rfl
 | increasing =>
  have hp:cM (wp l o d) o n (a:Int) (b:Int) ((c.1.1,c.1.2.1,(wp l o d,c.1.2.2.2)),c.2)=((partialInsertionSort (bH c) d a b).2,wp l o (partialInsertionSort (bH c) d a b).1)/\(partialInsertionSort (bH c) d a b).1.size=n:=aS5 (l:=l) (c:=((c.1.1,c.1.2.1,(wp l o d,c.1.2.2.2)),c.2)) hl hn hd oM hb;rw [hp.1];show PqT l o n rr l0 a1 a2 a3 c m (bif (partialInsertionSort (bH c) d a b).2 then .inr (wp l o (partialInsertionSort (bH c) d a b).1) else _) (let pi:=partialInsertionSort (bH c) d a b;_);generalize partialInsertionSort (bH c) d a b=pt at hp ⊢;obtain⟨d3,fin⟩:=pt;dsimp only at hp ⊢;cases fin
  case true=>exact⟨rfl,hp.2⟩
  exact aXu (a1:=a1) (a2:=a2) (a3:=a3) (l0:=l0) (c:=c) (w1:=true) (w2:=true) hl hn Hr Hm hp.2 hq hb hli hm hnr
theorem bE3 {d:Array Int} {a b lim:Nat} {w1 w2:Bool} (hd:d.size=n)(hab:a<=b)(hb:b<=n)(hli:lim<=1048576)(hm:b - a<=m)(hnr:b - a<=nr) :
 PqT l o n rr l0 a1 a2 a3 c m (bS rr l0 o n a1 a2 a3 c (wp l o d,(a:Int),(b:Int),(lim:Int),w1,w2)) (pdq (bH c) d a b lim w1 w2):=by
 have hw:W ((b:Int) - (a:Int))=((b - a:Nat):Int):=wN oM oM;rw [pdq];simp only [bS,hw];by_cases h12:b - a<=12
 ·rw [bX (show((b - a:Nat):Int)<=12 by omega),cond_true,if_pos h12];have:=aSx (l:=l) (c:=((c.1.1,c.1.2.1,(wp l o d,c.1.2.2.2)),c.2)) hl hn hb oM hd (a:=a);exact⟨this,by rw [(insertionSort_holds (nL c) d a b hab oM).1.1];exact hd⟩
 ·rw [cA (show ¬((b - a:Nat):Int)<=12 by omega),cond_false,if_neg h12];by_cases hl0:lim=0
  ·rw [if_pos hl0,show(((lim:Nat):Int) == 0)=true by simp [hl0],cond_true];have:=aS1 (l:=l) (c:=((c.1.1,c.1.2.1,(wp l o d,c.1.2.2.2)),c.2)) hl hn hab hb hd;exact⟨this,by rw [(heapSort_holds (nL c) d a b hab oM).1.1];exact hd⟩
  ·rw [if_neg hl0,show(((lim:Nat):Int) == 0)=false by simp [hl0],cond_false];have j10:∀(d1:Array Int) (lim:Nat),d1.size=n->lim<=1048576->PqT l o n rr l0 a1 a2 a3 c m (eM rr l0 o n a1 a2 a3 c (wp l o d1,(a:Int),(b:Int),(lim:Int),w1,w2,((b - a:Nat):Int)))
    (let cc:=choosePivot (bH c) d1 a b
    let d2:=if cc.2=.decreasing then reverseRange d1 a b else d1
    let pivot:=if cc.2=.decreasing then(b - 1) - (cc.1 - a) else cc.1
    let hint:=if cc.2=.decreasing then Hint.increasing else cc.2
    let pi:=if w1&&w2&&hint=.increasing then partialInsertionSort (bH c) d2 a b else(d2,false)
    if pi.2 then pi.1 else
    if a > 0&&!bH c pi.1[a - 1]! pi.1[pivot]! then
     match partitionEqual (bH c) pi.1 a b pivot with
     | (mid,d4)=>if _h:a < mid/\mid<=b then pdq (bH c) d4 mid b lim w1 w2 else d4
    else match partition (bH c) pi.1 a b pivot with
     | (mid,alreadyPartitioned,d4) =>
      if _h:a<=mid/\mid < b then
       if mid - a < b - mid then pdq (bH c) (pdq (bH c) d4 a mid lim true true) (mid+1) b lim (decide (mid - a≥(b - a) / 8)) alreadyPartitioned
       else pdq (bH c) (pdq (bH c) d4 (mid+1) b lim true true) a mid lim (decide (b - mid≥(b - a) / 8)) alreadyPartitioned
      else d4):=fun d1 lim hd1 hli=>by
    have hc:bR (wp l o d1) o n (a:Int) (b:Int) ((c.1.1,c.1.2.1,(wp l o d1,c.1.2.2.2)),c.2)=(((choosePivot (bH c) d1 a b).1:Int),aOr (choosePivot (bH c) d1 a b).2):=aS9 (l:=l) (c:=((c.1.1,c.1.2.1,(wp l o d1,c.1.2.2.2)),c.2)) hl hn hd1 oM hb;have hr:=choosePivot_holds (bH c) d1 a b oM;simp only [eM,hc];generalize choosePivot (bH c) d1 a b=pt at hr ⊢;obtain⟨q,hi⟩:=pt;dsimp only at hr ⊢;cases hi with
    | unknown=>exact aTd (hi:=.unknown) (a1:=a1) (a2:=a2) (a3:=a3) (l0:=l0) (c:=c) hl hn Hr Hm hd1 hr hb hli hm hnr
    | increasing=>exact aTd (hi:=.increasing) (a1:=a1) (a2:=a2) (a3:=a3) (l0:=l0) (c:=c) hl hn Hr Hm hd1 hr hb hli hm hnr
    | decreasing =>
     have hv:=aSy (l:=l) (c:=((c.1.1,c.1.2.1,(wp l o d1,c.1.2.2.2)),c.2)) hl hn (a:=a) (b:=b) oM hb hd1;have e1:W ((W ((b:Int) - 1)) - (W ((q:Int) - (a:Int))))=(((b - 1) - (q - a):Nat):Int):=by
      rw [wN (x:=(b:Int) - 1) (n:=b - 1) oM oM,wN (x:=(q:Int) - (a:Int)) (n:=q - a) oM oM];exact wN oM oM
     show PqT l o n rr l0 a1 a2 a3 c m (bI rr l0 o n a1 a2 a3 c ((fI (wp l o d1) o n (a:Int) (b:Int) ((c.1.1,c.1.2.1,(wp l o d1,c.1.2.2.2)),c.2)),(a:Int),(b:Int),(lim:Int),w1,w2,((b - a:Nat):Int),(W ((W ((b:Int) - 1)) - (W ((q:Int) - (a:Int))))),1)) _;rw [hv,e1];exact aTd (hi:=.increasing) (a1:=a1) (a2:=a2) (a3:=a3) (l0:=l0) (c:=c) hl hn Hr Hm (by rw [(reverseRange_holds d1 a b hab oM).1];exact hd1) oM hb hli hm hnr
   cases w1
   case true=>exact j10 d lim hd hli
   have hv:=aTb (l:=l) (c:=((c.1.1,c.1.2.1,(wp l o d,c.1.2.2.2)),c.2)) hl hn hd hab hb;rw [wN (x:=(lim:Int) - 1) (n:=lim - 1) oM oM,hv];exact j10 (breakPatterns d a b) (lim - 1) (by rw [(breakPatterns_holds d a b hab oM).1];exact hd) oM
omit Hr Hm in
theorem aTe:∀(nr:Nat) (c:sL) (d:Array Int) (a b lim:Nat),d.size=n->a<=b->b<=n->lim<=1048576->b - a < nr ->
 aX nr (wp l o d) o n (a:Int) (b:Int) (lim:Int) c=wp l o (pdq (bH c) d a b lim true true)/\(pdq (bH c) d a b lim true true).size=n
 | 0,_,_,_,_,_,_,_,_,_,h=>absurd h (dX _)
 | nr+1,c,d,a,b,lim,hd,hab,hb,hli,hnr=>by
  have Hr:=fun(c:sL) (d:Array Int) (a b lim:Nat) h1 h2 h3 h4 h5=>aTe nr c d a b lim h1 h2 h3 h4 h5
  unfold aX;have lp:∀(m:Nat) (d':Array Int) (a' b' lim':Nat) (w1 w2:Bool),d'.size=n->a'<=b'->b'<=n->lim'<=1048576->b' - a' < m->b' - a'<=nr ->
   aG (bS (aX nr) (wp l o d) o n (a:Int) (b:Int) (lim:Int) c) m (wp l o d',(a':Int),(b':Int),(lim':Int),w1,w2)=wp l o (pdq (bH c) d' a' b' lim' w1 w2)/\(pdq (bH c) d' a' b' lim' w1 w2).size=n:=by
   intro m
   induction m with|zero=>intro _ _ _ _ _ _ _ _ _ _ h;exact absurd h (dX _)|succ m ih=>?_
   intro d' a' b' lim' w1 w2 h1 h2 h3 h4 h5 h6;rw [aZ];exact bE3 (rr:=aX nr) (nr:=nr) hl hn Hr ih h1 h2 h3 h4 oM h6
  exact lp _ d a b lim true true hd hab hb hli oM oM
end
end Go.Proofs.YtlffahoikfahlaaGreat
namespace Go.Proofs.YtlffahoikfahlaaGreat
open Go.Proofs Go.Aw Go.RowKit
set_option maxRecDepth 100000
def jJ (a0:ZL)(a0_o a0_n:Nat)(a1:eG×Int):ZL := (pJ a0 a0_o a0_n 0 ((a0_n:Nat):Int) (aKk (iW .u64 ((a0_n:Nat):Int))) ((a1.1.1,a1.1.2.1,(a0,a1.1.2.2.2)),a1.2))
theorem aKo (a0:ZL)(a0_o a0_n:Nat)(a1:eG×Int)(l0:a0.length<=2^63-1)(l1_1_1:a1.1.1.length<=2^63-1)(l1_1_2_2_1:a1.1.2.2.1.length<=2^63-1)(l1_1_2_2_2:a1.1.2.2.2.length<=2^63-1)(hw:a0_o+a0_n<=a0.length/\a0.length<=1048576)(hr:InR a1.1.1.length a0):Con Tryz.prog 124 [(.s 0 (0+a0_o*1) a0_n 1),(.f 1000126 [(.a [(.p 1 0),(iv a1.2)])])] [(.live true true (flat c3 a0)),(.live false false [(.s 2 0 a1.1.1.length 10),(iv a1.1.2.1),(.s 0 0 a0.length 1),(.s 3 0 a1.1.2.2.2.length 8)]),(.live false true (flat dI a1.1.1)),(.live false true (flat cR a1.1.2.2.2))] (.t []) [] [(.live true true (flat c3 (jJ a0 a0_o a0_n a1))),.un,.un,.un]:=by
 refine cS Tryz.func124 fun cx hcx=>?_
 try dsimp only [bN]
 try dsimp only
 try rw [show List.length (α:=Int) (pJ a0 a0_o a0_n 0 ((a0_n:Nat):Int) (aKk (iW .u64 ((a0_n:Nat):Int))) ((a1.1.1,a1.1.2.1,(a0,a1.1.2.2.2)),a1.2))=a0.length from by first | simp;done | omega]
 exact rtn [.c [] (bCf (iW .u64 ((a0_n:Nat):Int))  (by rw [IntKind.wrap_u64];omega)),.c [0,1,2,3] (aKn a0 a0_o a0_n 0 ((a0_n:Nat):Int) (aKk (iW .u64 ((a0_n:Nat):Int))) ((a1.1.1,a1.1.2.1,(a0,a1.1.2.2.2)),a1.2) oM oM oM oM hw hr oM)] [] [0] [] hcx oK
def iT (a0:Zt×Zt×Zt):Zt×Zt×Zt := a0
theorem bE4 (a0:Zt×Zt×Zt):Con Tryz.prog 158 [(.a (k9 a0))] [] (.a (k9 (iT a0))) []:=by
 refine cS Tryz.func158 fun cx hcx=>?_
 exact rT [] hcx
def aV2 (a0:Int):Int := (fD a0 (2 ^ (min (tN 1) 64)))
theorem aZr (a0:Int):Con Tryz.prog 159 [(iv a0)] [] (iv (aV2 a0)) []:=by
 refine cS Tryz.func159 fun cx hcx=>?_
 exact rT [.p (show 0<=(1:Int) from by decide)] hcx
noncomputable def qV:=aU [1,1,0,1] [] (aV Tryz.f25) []
def wV (a0:bV)(a1:ZL)(v2c:List SV)(v2n:Nat)(v3:Int):LS:=⟨gU 23 [(0,(.s 0 0 a0.length 10)),(5,(.s 2 0 v2n 10)),(8,(.s 1 0 a1.length 1)),(9,(iv (a1.length:Int))),(10,(iv v3))],[(.live false true (flat dI a0)),(.live false true (flat c3 a1)),(.live true true v2c)]⟩
def jP (a0:bV)(a1:ZL):bV×Int->(bV×Int)⊕bV | (v2,v3) => (bif (decide ((v3:Int) < (a1.length:Int)))then(.inl ((v2++[(a0.getD (tN (a1.getD (tN v3) dF)) dF)]),(v3+1)))else(.inr v2))
def kS0 (x:((Int×Int×Int)×(Int×Int×Int)×Int×Int×Int)×Int):List SV:=[(iv x.1.1.1),(iv x.1.1.2.1),(iv x.1.1.2.2),(iv x.1.2.1.1),(iv x.1.2.1.2.1),(iv x.1.2.1.2.2),(iv x.1.2.2.1),(iv x.1.2.2.2.1),(iv x.1.2.2.2.2),(iv x.2)]
theorem aP7 (a0:bV)(a1:ZL)(l0:a0.length<=2^63-1)(l1:a1.length<=2^63-1)(hir:InR a0.length a1)(hl:a1.length<=1048576) {cx:Cx} (hcx:cx.base=2):∀(n:Nat) (v2:bV) (v3:Int),(0<=v3)/\(v2.length=tN v3)/\(v3<=a1.length)->tN ((a1.length:Int) - v3) < n->gG Tryz.f25 cx (.s 2 0 (aG (jP a0 a1) n (v2,v3)).length 10) [(.live true true (flat dI (aG (jP a0 a1) n (v2,v3))))] [] (.l qV.1 n::qV.2) (wV a0 a1 (flat dI v2) v2.length v3):=by
 intro n
 induction n with|zero=>intro v2 v3 hi hn;exact absurd hn (dX _)|succ n ih=>?_
 intro v2 v3 hi hn;refine aN ?_;rw [aZ,jP];cases h0:(decide ((v3:Int) < (a1.length:Int)))
 case true=>
  have q0:=eS h0
  try have hr1:=hir.at (i:=tN v3) (by have _:=h0;omega)
  refine bA n [.d h0,.i v3 (a1.length),.L aF a1 v3 0 1,.i (a1.getD (tN v3) dF) (a0.length),.L cQ a0 (a1.getD (tN v3) dF) 0 10,.p (show((flat dI v2).length=v2.length*10/\v2.length+1<=2 ^ 40/\(v2.length+1)*80<=2 ^ 47) from iS cQ oM oM)] [0,5,8,9,10] [4] hcx qV (wV a0 a1 (flat dI v2++(kS0 (a0.getD (tN (a1.getD (tN v3) dF)) dF))) (v2.length+1) (W (v3+1))) ?_;have z0:(W (v3+1))=(v3+1):=aH oM oM;have z1:(flat dI v2++(kS0 (a0.getD (tN (a1.getD (tN v3) dF)) dF)))=_:=(bQ (c:=dI) (l:=v2) (m:=[(a0.getD (tN (a1.getD (tN v3) dF)) dF)])).symm;have z2:(v2.length+1)=_:=jN v2 [(a0.getD (tN (a1.getD (tN v3) dF)) dF)] rfl;rw [z0,z1,z2];exact ih _ _ oR oM
 exact rt [.d h0] [] [2] hcx oK
def cW (a0:bV)(a1:ZL):bV := (aG (jP a0 a1) (tN ((a1.length:Int) - 0)+1) (([]:bV),0))
theorem aOw (a0:bV)(a1:ZL)(l0:a0.length<=2^63-1)(l1:a1.length<=2^63-1)(hir:InR a0.length a1)(hl:a1.length<=1048576):Con Tryz.prog 25 [(.s 0 0 a0.length 10),(.s 1 0 a1.length 1)] [(.live false true (flat dI a0)),(.live false true (flat c3 a1))] (.s 2 0 (cW a0 a1).length 10) [(.live true true (flat dI (cW a0 a1)))]:=by
 refine cS Tryz.func25 fun cx hcx=>?_
 refine en [] [.slot 5 10] [0,5,8,9,10] [2] hcx qV.1 qV.2 (wV a0 a1 (flat dI ([]:bV)) 0 0) (tN ((a1.length:Int) - 0)+1) oK ?_;exact aP7 a0 a1 l0 l1 hir hl hcx (tN ((a1.length:Int) - 0)+1) ([]:bV) 0 oR oM
noncomputable def yK:=aU [1,1,0,1] [] (aV Tryz.f122) []
def aAe (a0:bV)(v1 v2 v3 v4 v5 v6 v7:Int):LS:=⟨gU 84 [(2,(.p 1 0)),(3,(.p 2 0)),(4,(.p 3 0)),(19,(.s 0 0 a0.length 10)),(20,(iv (a0.length:Int))),(21,(iv v1))],[(.live false true (flat dI a0)),(.live true false [(iv 0),(iv 0),(iv 0)]),(.live true false [(iv v2),(iv v3),(iv v4)]),(.live true false [(iv v5),(iv v6),(iv v7)])]⟩
def jW (a0:bV):Int×Int×Int×Int×Zt->(Int×Int×Int×Int×Zt)⊕Zt | (v1,v2,v3,v4,v5,v6,v7) => (bif (decide ((v1:Int) < (a0.length:Int)))then(.inl ((v1+1),(hP (hP (hP v2 (iT (a0.getD (tN v1) dF).1).1.1) (iT (a0.getD (tN v1) dF).1).2.1.1) (iT (a0.getD (tN v1) dF).1).2.2.1),(hP (hP (hP v3 (iT (a0.getD (tN v1) dF).1).1.2.1) (iT (a0.getD (tN v1) dF).1).2.1.2.1) (iT (a0.getD (tN v1) dF).1).2.2.2.1),(hP (hP (hP v4 (iT (a0.getD (tN v1) dF).1).1.2.2) (iT (a0.getD (tN v1) dF).1).2.1.2.2) (iT (a0.getD (tN v1) dF).1).2.2.2.2),(bT (bT (bT v5 (iT (a0.getD (tN v1) dF).1).1.1) (iT (a0.getD (tN v1) dF).1).2.1.1) (iT (a0.getD (tN v1) dF).1).2.2.1),(bT (bT (bT v6 (iT (a0.getD (tN v1) dF).1).1.2.1) (iT (a0.getD (tN v1) dF).1).2.1.2.1) (iT (a0.getD (tN v1) dF).1).2.2.2.1),(bT (bT (bT v7 (iT (a0.getD (tN v1) dF).1).1.2.2) (iT (a0.getD (tN v1) dF).1).2.1.2.2) (iT (a0.getD (tN v1) dF).1).2.2.2.2)))else(.inr ((aV2 (W (v2+v5))),(aV2 (W (v3+v6))),(aV2 (W (v4+v7))))))
theorem aTf (a0:bV)(l0:a0.length<=2^63-1)(hl:1<=a0.length/\a0.length<=1048576) {cx:Cx} (hcx:cx.base=1):∀(n:Nat) (v1 v2 v3 v4 v5 v6 v7:Int),(0<=v1)/\(v1<=a0.length)->tN ((a0.length:Int) - v1) < n->gG Tryz.f122 cx (.a (k3 (aG (jW a0) n (v1,v2,v3,v4,v5,v6,v7)))) [] [] (.l yK.1 n::yK.2) (aAe a0 v1 v2 v3 v4 v5 v6 v7):=by
 intro n
 induction n with|zero=>intro v1 v2 v3 v4 v5 v6 v7 hi hn;exact absurd hn (dX _)|succ n ih=>?_
 intro v1 v2 v3 v4 v5 v6 v7 hi hn;refine aN ?_;rw [aZ,jW];cases h0:(decide ((v1:Int) < (a0.length:Int)))
 case true=>have q0:=eS h0;refine bA n [.d h0,.i v1 (a0.length),.L cQ a0 v1 0 10,.c [] (bE4 (a0.getD (tN v1) dF).1),.u 200,.T,.i 0 3,.u 0,.T,.i 1 3,.u 0,.T,.i 2 3,.u 0,.F] [2,3,4,19,20,21] [1,2,3] hcx yK (aAe a0 (W (v1+1)) (hP (hP (hP v2 (iT (a0.getD (tN v1) dF).1).1.1) (iT (a0.getD (tN v1) dF).1).2.1.1) (iT (a0.getD (tN v1) dF).1).2.2.1) (hP (hP (hP v3 (iT (a0.getD (tN v1) dF).1).1.2.1) (iT (a0.getD (tN v1) dF).1).2.1.2.1) (iT (a0.getD (tN v1) dF).1).2.2.2.1) (hP (hP (hP v4 (iT (a0.getD (tN v1) dF).1).1.2.2) (iT (a0.getD (tN v1) dF).1).2.1.2.2) (iT (a0.getD (tN v1) dF).1).2.2.2.2) (bT (bT (bT v5 (iT (a0.getD (tN v1) dF).1).1.1) (iT (a0.getD (tN v1) dF).1).2.1.1) (iT (a0.getD (tN v1) dF).1).2.2.1) (bT (bT (bT v6 (iT (a0.getD (tN v1) dF).1).1.2.1) (iT (a0.getD (tN v1) dF).1).2.1.2.1) (iT (a0.getD (tN v1) dF).1).2.2.2.1) (bT (bT (bT v7 (iT (a0.getD (tN v1) dF).1).1.2.2) (iT (a0.getD (tN v1) dF).1).2.1.2.2) (iT (a0.getD (tN v1) dF).1).2.2.2.2)) ?_;have z0:(W (v1+1))=(v1+1):=aH oM oM;rw [z0];exact ih _ _ _ _ _ _ _ oR oM
 exact rT [.d h0,.c [] (aZr (W (v2+v5))),.c [] (aZr (W (v3+v6))),.c [] (aZr (W (v4+v7)))] hcx
def cI (a0:bV):Zt := (aG (jW a0) (tN ((a0.length:Int) - 0)+1) (0,(a0.getD (tN 0) dF).1.1.1,(a0.getD (tN 0) dF).1.1.2.1,(a0.getD (tN 0) dF).1.1.2.2,(a0.getD (tN 0) dF).1.1.1,(a0.getD (tN 0) dF).1.1.2.1,(a0.getD (tN 0) dF).1.1.2.2))
theorem aZs (a0:bV)(l0:a0.length<=2^63-1)(hl:1<=a0.length/\a0.length<=1048576):Con Tryz.prog 122 [(.s 0 0 a0.length 10)] [(.live false true (flat dI a0))] (.a (k3 (cI a0))) []:=by
 refine cS Tryz.func122 fun cx hcx=>?_
 refine eN [.i 0 (a0.length),.L cQ a0 0 0 3,.i 0 (a0.length),.L cQ a0 0 0 3] [2,3,4,19,20,21] [1,2,3] hcx yK (aAe a0 0 ((a0.getD (tN 0) dF).1.1.1) ((a0.getD (tN 0) dF).1.1.2.1) ((a0.getD (tN 0) dF).1.1.2.2) ((a0.getD (tN 0) dF).1.1.1) ((a0.getD (tN 0) dF).1.1.2.1) ((a0.getD (tN 0) dF).1.1.2.2)) (tN ((a0.length:Int) - 0)+1) ?_;exact aTf a0 l0 hl hcx (tN ((a0.length:Int) - 0)+1) 0 ((a0.getD (tN 0) dF).1.1.1) ((a0.getD (tN 0) dF).1.1.2.1) ((a0.getD (tN 0) dF).1.1.2.2) ((a0.getD (tN 0) dF).1.1.1) ((a0.getD (tN 0) dF).1.1.2.1) ((a0.getD (tN 0) dF).1.1.2.2) oR oM
def tL (a0 a1 a2:Int):Bool := (bif (decide ((a1:Int)<=a0))then(decide ((a0:Int)<=a2))else false)
theorem C98 (a0 a1 a2:Int):Con Tryz.prog 98 [(iv a0),(iv a1),(iv a2)] [] (.v (.bool (tL a0 a1 a2))) []:=by
 refine cS Tryz.func98 fun cx hcx=>?_
 rw [tL];cases h0:(decide ((a1:Int)<=a0))
 case true=>exact rT [.d h0] hcx
 exact rT [.d h0] hcx
def F91 (a0:Zt)(a1:Int):Bool := (bif (tL a0.1 (W (0 - a1)) a1)then(bif (tL a0.2.1 (W (0 - a1)) a1)then(tL a0.2.2 (W (0 - a1)) a1)else false)else false)
theorem C91 (a0:Zt)(a1:Int):Con Tryz.prog 91 [(.a (k3 a0)),(iv a1)] [] (.v (.bool (F91 a0 a1))) []:=by
 refine cS Tryz.func91 fun cx hcx=>?_
 let t0:SL:=[.c [] (C98 a0.1 (W (0 - a1)) a1)];rw [F91];cases h0:(tL a0.1 (W (0 - a1)) a1)
 case true=>
  let t1:SL:=t0++[.d h0,.c [] (C98 a0.2.1 (W (0 - a1)) a1)];cases h1:(tL a0.2.1 (W (0 - a1)) a1)
  case true=>exact rT (t1++[.d h1,.c [] (C98 a0.2.2 (W (0 - a1)) a1)]) hcx
  exact rT (t1++[.d h1]) hcx
 exact rT (t0++[.d h0]) hcx
def bC (a0 a1:Zt):Zt := ((W (a0.1 - a1.1)),(W (a0.2.1 - a1.2.1)),(W (a0.2.2 - a1.2.2)))
theorem C92 (a0 a1:Zt):Con Tryz.prog 92 [(.a (k3 a0)),(.a (k3 a1))] [] (.a (k3 (bC a0 a1))) []:=by
 refine cS Tryz.func92 fun cx hcx=>?_
 exact rT [] hcx
def dC (a0 a1:Zt):Int := (W ((W ((W (a0.1*a1.1))+(W (a0.2.1*a1.2.1))))+(W (a0.2.2*a1.2.2))))
theorem aP8 (a0 a1:Zt):Con Tryz.prog 100 [(.a (k3 a0)),(.a (k3 a1))] [] (iv (dC a0 a1)) []:=by
 refine cS Tryz.func100 fun cx hcx=>?_
 exact rT [] hcx
def sP (a0:bV)(a1:Zt):Int := (bif (((iH a0):Int) != 0)then(iH a0)else(bif (!(F91 a1 64))then 1 else 0))
theorem aXv (a0:bV)(a1:Zt)(l0:a0.length<=2^63-1):Con Tryz.prog 51 [(.s 0 0 a0.length 10),(.a (k3 a1))] [(.live false true (flat dI a0))] (iv (sP a0 a1)) []:=by
 refine cS Tryz.func51 fun cx hcx=>?_
 let t0:SL:=[.c [0] (aN1 a0 oM)];rw [sP];cases h0:(((iH a0):Int) != 0)
 case true=>exact rT (t0++[.d h0]) hcx
 let t1:SL:=t0++[.d h0,.c [] (C91 a1 64)];cases h1:(!(F91 a1 64))
 case true=>exact rT (t1++[.d h1]) hcx
 exact rT (t1++[.d h1]) hcx
noncomputable def yL:=aU [1,1,1,0,1] [] (aV Tryz.f123) []
def aAf (a0:bV)(a1:Zt)(v1 v2:Int):LS:=⟨gU 49 [(3,(.p 1 0)),(7,(iv v1)),(19,(.s 0 0 a0.length 10)),(20,(iv (a0.length:Int))),(21,(iv v2))],[(.live false true (flat dI a0)),(.live true false (k3 a1))]⟩
def yM (a0:bV)(a1:Zt):Zs->Zs⊕Zs | (v1,v2) => (bif (decide ((v2:Int) < (a0.length:Int)))then(.inl ((bT (bT (bT v1 (dC (bC (a0.getD (tN v2) dF).1.1 a1) (bC (a0.getD (tN v2) dF).1.1 a1))) (dC (bC (a0.getD (tN v2) dF).1.2.1 a1) (bC (a0.getD (tN v2) dF).1.2.1 a1))) (dC (bC (a0.getD (tN v2) dF).1.2.2 a1) (bC (a0.getD (tN v2) dF).1.2.2 a1))),(v2+1)))else(.inr (v1,0)))
theorem aTg (a0:bV)(a1:Zt)(l0:a0.length<=2^63-1)(hl:a0.length<=1048576) {cx:Cx} (hcx:cx.base=1):∀(n:Nat) (v1 v2:Int),(0<=v2)/\(v2<=a0.length)->tN ((a0.length:Int) - v2) < n->gG Tryz.f123 cx (.t (k2 (aG (yM a0 a1) n (v1,v2)))) [] [] (.l yL.1 n::yL.2) (aAf a0 a1 v1 v2):=by
 intro n
 induction n with|zero=>intro v1 v2 hi hn;exact absurd hn (dX _)|succ n ih=>?_
 intro v1 v2 hi hn;refine aN ?_;rw [aZ,yM];cases h0:(decide ((v2:Int) < (a0.length:Int)))
 case true=>have q0:=eS h0;refine bA n [.d h0,.i v2 (a0.length),.L cQ a0 v2 0 10,.u 200,.T,.i 0 3,.c [] (C92 (a0.getD (tN v2) dF).1.1 a1),.c [] (aP8 (bC (a0.getD (tN v2) dF).1.1 a1) (bC (a0.getD (tN v2) dF).1.1 a1)),.u 0,.T,.i 1 3,.c [] (C92 (a0.getD (tN v2) dF).1.2.1 a1),.c [] (aP8 (bC (a0.getD (tN v2) dF).1.2.1 a1) (bC (a0.getD (tN v2) dF).1.2.1 a1)),.u 0,.T,.i 2 3,.c [] (C92 (a0.getD (tN v2) dF).1.2.2 a1),.c [] (aP8 (bC (a0.getD (tN v2) dF).1.2.2 a1) (bC (a0.getD (tN v2) dF).1.2.2 a1)),.u 0,.F] [3,7,19,20,21] [1] hcx yL (aAf a0 a1 (bT (bT (bT v1 (dC (bC (a0.getD (tN v2) dF).1.1 a1) (bC (a0.getD (tN v2) dF).1.1 a1))) (dC (bC (a0.getD (tN v2) dF).1.2.1 a1) (bC (a0.getD (tN v2) dF).1.2.1 a1))) (dC (bC (a0.getD (tN v2) dF).1.2.2 a1) (bC (a0.getD (tN v2) dF).1.2.2 a1))) (W (v2+1))) ?_;have z0:(W (v2+1))=(v2+1):=aH oM oM;rw [z0];exact ih _ _ oR oM
 exact rT [.d h0] hcx
def aD0 (a0:bV)(a1:Zt):Zs := (bif (((sP a0 a1):Int) != 0)then(0,(sP a0 a1))else(aG (yM a0 a1) (tN ((a0.length:Int) - 0)+1) (0,0)))
theorem aZt (a0:bV)(a1:Zt)(l0:a0.length<=2^63-1)(hl:a0.length<=1048576):Con Tryz.prog 123 [(.s 0 0 a0.length 10),(.a (k3 a1))] [(.live false true (flat dI a0))] (.t (k2 (aD0 a0 a1))) []:=by
 refine cS Tryz.func123 fun cx hcx=>?_
 let t0:SL:=[.c [0] (aXv a0 a1 oM)];rw [aD0];cases h0:(((sP a0 a1):Int) != 0)
 case true=>exact rT (t0++[.d h0]) hcx
 refine eN (t0++[.d h0]) [3,7,19,20,21] [1] hcx yL (aAf a0 a1 0 0) (tN ((a0.length:Int) - 0)+1) ?_;exact aTg a0 a1 l0 hl hcx (tN ((a0.length:Int) - 0)+1) 0 0 oR oM
noncomputable def aD1:Code:=(aU [1,1,0,1,0,1,1,0,1,1,0,1] [0] (aV Tryz.f125) []).1
noncomputable def aD2 (m0:Nat):List K:=(aU [1,1,0,1,0,1,1,0,1,1,0,1] [m0] (aV Tryz.f125) []).2
def aAg (a0:bV×Int×ZL×cV)(a1:ZL)(v15 v16 v17 v18 v19 v20 v21:Int):LS:=⟨gU 59 [(0,(.p 0 0)),(1,(.s 4 0 a1.length 1)),(4,(.p 5 0)),(5,(iv v15)),(6,(iv v16)),(7,(iv v17)),(8,(iv v18)),(9,(iv v19)),(12,(iv v20)),(27,(.s 4 0 a1.length 1)),(28,(iv (a1.length:Int))),(29,(iv v21))],[(.live false false [(.s 1 0 a0.1.length 10),(iv a0.2.1),(.s 2 0 a0.2.2.1.length 1),(.s 3 0 a0.2.2.2.length 8)]),(.live false true (flat dI a0.1)),(.live false true (flat c3 a0.2.2.1)),(.live false true (flat cR a0.2.2.2)),(.live false true (flat c3 a1)),(.live true false [(.v (.pointer none)),(iv 0)])]⟩
def jK (a0:bV×Int×ZL×cV)(a1:ZL):Int×Int×Int×Int×Zt->(Int×Int×Int×Int×Zt)⊕(Zt⊕TyS) | (v15,v16,v17,v18,v19,v20,v21) => (bif (decide ((v21:Int) < (a1.length:Int)))then(.inl (v15,v16,v17,(if((mU (a0.1,a0.2.1,(a0.2.2.1,a0.2.2.2)) (a1.getD (tN v21) dF) v17):Int) < v18 then(mU (a0.1,a0.2.1,(a0.2.2.1,a0.2.2.2)) (a1.getD (tN v21) dF) v17)else v18),(if(v19:Int) < (mU (a0.1,a0.2.1,(a0.2.2.1,a0.2.2.2)) (a1.getD (tN v21) dF) v17)then(mU (a0.1,a0.2.1,(a0.2.2.1,a0.2.2.2)) (a1.getD (tN v21) dF) v17)else v19),v20,(v21+1)))else(bif (decide (((W (v19 - v18)):Int) > v16))then(.inr (.inl (v17,(W (v19 - v18)),(v20+1))))else(.inr (.inl (v15,v16,(v20+1))))))
noncomputable def oS:=aU [1,1,0,1] [] (aV Tryz.f125) []
def qW (a0:bV×Int×ZL×cV)(a1:ZL)(v12 v13 v14:Int):LS:=⟨gU 59 [(0,(.p 0 0)),(1,(.s 4 0 a1.length 1)),(4,(.p 5 0)),(5,(iv v12)),(6,(iv v13)),(12,(iv v14))],[(.live false false [(.s 1 0 a0.1.length 10),(iv a0.2.1),(.s 2 0 a0.2.2.1.length 1),(.s 3 0 a0.2.2.2.length 8)]),(.live false true (flat dI a0.1)),(.live false true (flat c3 a0.2.2.1)),(.live false true (flat cR a0.2.2.2)),(.live false true (flat c3 a1)),(.live true false [(.v (.pointer none)),(iv 0)])]⟩
def jX (a0:bV×Int×ZL×cV)(a1:ZL):Zt->Zt⊕TyS | (v12,v13,v14) => (bif (decide ((v14:Int) < 3))then(aG (jK a0 a1) (tN ((a1.length:Int) - 0)+1) (v12,v13,v14,(mU (a0.1,a0.2.1,(a0.2.2.1,a0.2.2.2)) (a1.getD (tN 0) dF) v14),(mU (a0.1,a0.2.1,(a0.2.2.1,a0.2.2.2)) (a1.getD (tN 0) dF) v14),v14,0))else(.inr ((a0.1,a0.2.1,(a0.2.2.1,a0.2.2.2)),v12)))
theorem aTh (a0:bV×Int×ZL×cV)(a1:ZL)(l0_1:a0.1.length<=2^63-1)(l0_2_2_1:a0.2.2.1.length<=2^63-1)(l0_2_2_2:a0.2.2.2.length<=2^63-1)(l1:a1.length<=2^63-1)(hir:InR a0.1.length a1)(hl:1<=a1.length/\a1.length<=1048576) {cx:Cx} (hcx:cx.base=5)
 (n0:Nat) (g0:∀(v12 v13 v14:Int),(0<=v14)/\(v14<=3)->tN (3 - v14) < n0->gG Tryz.f125 cx (.a [(.p 0 0),(iv (aG (jX a0 a1) n0 (v12,v13,v14)).2)]) [] [] (.l oS.1 n0::oS.2) (qW a0 a1 v12 v13 v14)):∀(n:Nat) (v15 v16 v17 v18 v19 v20 v21:Int),(0<=v21)/\(v21<=a1.length)/\((0<=v20))/\((v20<=3))/\(v20 < 3)/\(tN (3 - v20) < n0+1)->tN ((a1.length:Int) - v21) < n->gG Tryz.f125 cx (.a [(.p 0 0),(iv (bN (jX a0 a1) n0 (aG (jK a0 a1) n (v15,v16,v17,v18,v19,v20,v21))).2)]) [] [] (.l aD1 n::aD2 n0) (aAg a0 a1 v15 v16 v17 v18 v19 v20 v21):=by
 intro n
 induction n with|zero=>intro v15 v16 v17 v18 v19 v20 v21 hi hn;exact absurd hn (dX _)|succ n ih=>?_
 intro v15 v16 v17 v18 v19 v20 v21 hi hn;refine aN ?_;rw [aZ,jK];cases h0:(decide ((v21:Int) < (a1.length:Int)))
 case true=>
  have q0:=eS h0
  try have hr1:=hir.at (i:=tN v21) (by have _:=h0;omega)
  refine ba [.d h0,.i v21 (a1.length),.L aF a1 v21 0 1,.c [0,1,2,3] (aP5 (a0.1,a0.2.1,(a0.2.2.1,a0.2.2.2)) (a1.getD (tN v21) dF) v17 oM oM oM oM),.c [0,1,2,3] (aP5 (a0.1,a0.2.1,(a0.2.2.1,a0.2.2.2)) (a1.getD (tN v21) dF) v17 oM oM oM oM)] [] [0,1,4,5,6,7,8,9,12,27,28,29] [5] hcx (m:=n) aD1 (aD2 n0) (aAg a0 a1 v15 v16 v17 (if((mU (a0.1,a0.2.1,(a0.2.2.1,a0.2.2.2)) (a1.getD (tN v21) dF) v17):Int) < v18 then(mU (a0.1,a0.2.1,(a0.2.2.1,a0.2.2.2)) (a1.getD (tN v21) dF) v17) else v18) (if(v19:Int) < (mU (a0.1,a0.2.1,(a0.2.2.1,a0.2.2.2)) (a1.getD (tN v21) dF) v17) then(mU (a0.1,a0.2.1,(a0.2.2.1,a0.2.2.2)) (a1.getD (tN v21) dF) v17) else v19) v20 (W (v21+1))) oK ?_;have z0:(W (v21+1))=(v21+1):=aH oM oM;rw [z0];exact ih _ _ _ _ _ _ _ (by refine⟨?_,?_,?_,?_,?_,?_⟩<;>(try simp only [Ls])<;>first | omega | assumption | exact hi.2.1 | exact hi.2.2.1 | exact hi.2.2.2.1 | exact hi.2.2.2.2.1 | exact hi.2.2.2.2.2.1 | simp) oM
 have q0:=iF h0;let t1:SL:=[.d h0];cases h1:(decide (((W (v19 - v18)):Int) > v16))
 case true=>refine bA n0 (t1++[.d h1]) [0,1,4,5,6,12] [5] hcx oS (qW a0 a1 v17 (W (v19 - v18)) (W (v20+1))) ?_;have z0:(W (v20+1))=(v20+1):=aH oM oM;rw [z0];exact g0 v17 (W (v19 - v18)) (v20+1) oR oM
 refine bA n0 (t1++[.d h1]) [0,1,4,5,6,12] [5] hcx oS (qW a0 a1 v15 v16 (W (v20+1))) ?_;have z0:(W (v20+1))=(v20+1):=aH oM oM;rw [z0];exact g0 v15 v16 (v20+1) oR oM
theorem aTi (a0:bV×Int×ZL×cV)(a1:ZL)(l0_1:a0.1.length<=2^63-1)(l0_2_2_1:a0.2.2.1.length<=2^63-1)(l0_2_2_2:a0.2.2.2.length<=2^63-1)(l1:a1.length<=2^63-1)(hir:InR a0.1.length a1)(hl:1<=a1.length/\a1.length<=1048576) {cx:Cx} (hcx:cx.base=5):∀(n:Nat) (v12 v13 v14:Int),(0<=v14)/\(v14<=3)->tN (3 - v14) < n->gG Tryz.f125 cx (.a [(.p 0 0),(iv (aG (jX a0 a1) n (v12,v13,v14)).2)]) [] [] (.l oS.1 n::oS.2) (qW a0 a1 v12 v13 v14):=by
 intro n
 induction n with|zero=>intro v12 v13 v14 hi hn;exact absurd hn (dX _)|succ n ih=>?_
 intro v12 v13 v14 hi hn;refine aN ?_;have hr0:=hir.at (i:=0) oM;rw [aZ,jX];cases h0:(decide ((v14:Int) < 3))
 case true=>have q0:=eS h0;refine en [.d h0,.i 0 (a1.length),.L aF a1 0 0 1,.c [0,1,2,3] (aP5 (a0.1,a0.2.1,(a0.2.2.1,a0.2.2.2)) (a1.getD (tN 0) dF) v14 oM oM oM (by(try simp only [Lt]);omega)),.i 0 (a1.length),.L aF a1 0 0 1,.c [0,1,2,3] (aP5 (a0.1,a0.2.1,(a0.2.2.1,a0.2.2.2)) (a1.getD (tN 0) dF) v14 oM oM oM (by(try simp only [Lt]);omega))] [] [0,1,4,5,6,7,8,9,12,27,28,29] [5] hcx aD1 (aD2 n) (aAg a0 a1 v12 v13 v14 (mU (a0.1,a0.2.1,(a0.2.2.1,a0.2.2.2)) (a1.getD (tN 0) dF) v14) (mU (a0.1,a0.2.1,(a0.2.2.1,a0.2.2.2)) (a1.getD (tN 0) dF) v14) v14 0) (tN ((a1.length:Int) - 0)+1) oK ?_;exact aTh a0 a1 l0_1 l0_2_2_1 l0_2_2_2 l1 hir hl hcx n ih (tN ((a1.length:Int) - 0)+1) v12 v13 v14 (mU (a0.1,a0.2.1,(a0.2.2.1,a0.2.2.2)) (a1.getD (tN 0) dF) v14) (mU (a0.1,a0.2.1,(a0.2.2.1,a0.2.2.2)) (a1.getD (tN 0) dF) v14) v14 0 (by refine⟨?_,?_,?_,?_,?_,?_⟩<;>(try simp only [Ls])<;>first | omega | assumption | exact hi.2.1 | exact hi.2.2.1 | exact hi.2.2.2.1 | exact hi.2.2.2.2.1 | exact hi.2.2.2.2.2.1 | simp) oM
 exact rT [.d h0] hcx
def aD3 (a0:bV×Int×ZL×cV)(a1:ZL):eG×Int := (aG (jX a0 a1) (tN (3 - 0)+1) (0,(-1),0))
theorem aZu (a0:bV×Int×ZL×cV)(a1:ZL)(l0_1:a0.1.length<=2^63-1)(l0_2_2_1:a0.2.2.1.length<=2^63-1)(l0_2_2_2:a0.2.2.2.length<=2^63-1)(l1:a1.length<=2^63-1)(hir:InR a0.1.length a1)(hl:1<=a1.length/\a1.length<=1048576):Con Tryz.prog 125 [(.p 0 0),(.s 4 0 a1.length 1)] [(.live false false [(.s 1 0 a0.1.length 10),(iv a0.2.1),(.s 2 0 a0.2.2.1.length 1),(.s 3 0 a0.2.2.2.length 8)]),(.live false true (flat dI a0.1)),(.live false true (flat c3 a0.2.2.1)),(.live false true (flat cR a0.2.2.2)),(.live false true (flat c3 a1))] (.a [(.p 0 0),(iv (aD3 a0 a1).2)]) []:=by
 refine cS Tryz.func125 fun cx hcx=>?_
 have e:=Eq.refl (aD3 a0 a1);(conv at e=>rhs;simp only [aD3])
 try rw [e]
 refine eN [] [0,1,4,5,6,12] [5] hcx oS (qW a0 a1 0 (-1) 0) (tN (3 - 0)+1) ?_;exact aTi a0 a1 l0_1 l0_2_2_1 l0_2_2_2 l1 hir hl hcx (tN (3 - 0)+1) 0 (-1) 0 oR oM
abbrev BU:=(List (((Zt×Zt×Zt)×Int)))×Int×ZL×cV
structure PADD (b:BU) (i k:Int):Prop where
 inr:InR b.1.length b.2.2.1
 rng:0<=i/\i < k/\k<=b.2.2.1.length/\b.2.2.1.length<=1048576
 nds:b.2.2.2.length+2*(k - i)<=4194304
 lf:1<=b.2.1
theorem InR.part {n:Nat} {l:ZL} (h:InR n l)(a b:Int):InR n (Aw.part l a b):=fun x hx=>h x (List.mem_of_mem_drop (List.mem_of_mem_take hx))
theorem aKp {a0:bV} {a1:ZL}:∀(d i n:Nat) (m:bV),d=a1.length - i->i<=a1.length->d < n ->
 aG (jP a0 a1) n (m,(i:Int))=m++(a1.drop i).map (fun a=>a0.getD (tN a) dF)
 | 0,i,n,m,hd,hi,hn=>by
  obtain⟨n,rfl⟩:∃m,n=m+1:=⟨n - 1,by omega⟩;have:i=a1.length:=by omega
  subst this;have e:jP a0 a1 (m,(a1.length:Int))=.inr m:=by
   simp only [jP];rw [cA (Int.lt_irrefl _),cond_false]
  rw [aL e];simp
 | d+1,i,n,m,hd,hi,hn=>by
  obtain⟨n,rfl⟩:∃m,n=m+1:=⟨n - 1,by omega⟩;have e:jP a0 a1 (m,(i:Int))=.inl (m++[a0.getD (tN (a1.getD i dF)) dF],((i+1:Nat):Int)):=by
   simp only [jP];rw [bX (show((i:Nat):Int) < (a1.length:Nat) by omega),cond_true,iB];rfl
  rw [aK e,aKp d (i+1) n _ oM oM oM,List.drop_eq_getElem_cons (show i < a1.length by omega),List.map_cons];simp [gS,List.getElem?_eq_getElem (show i < a1.length by omega)]
theorem aMu (a0:bV)(a1:ZL):cW a0 a1=a1.map (fun a=>a0.getD (tN a) dF):=by
 have:=aKp (a0:=a0) (a1:=a1) a1.length 0 (tN ((a1.length:Int) - 0)+1) [] oM oM oM;exact this
theorem uO (a0:bV)(a1:ZL):(cW a0 a1).length=a1.length:=by rw [aMu];simp
theorem aZv {N:Nat} {l:ZL} {o m:Nat} {c:BU×Int} (hw:o+m<=l.length/\l.length<=1048576)(hi:InR N l):(jJ l o m c).length=l.length/\InR N (jJ l o m c) :=
 aBu _ hw hi oM oM
theorem aD4 {i k:Int} (h:0<=i/\i < k/\k<=1048576):(W (i+(W (tD (W ((W (k - i))+1)) 2))))=i+(k - i+1) / 2:=by
 rw [aH (n:=k - i) oM oM,aH (n:=k - i+1) oM oM,Int.tdiv_eq_ediv_of_nonneg oM,aH (n:=(k - i+1) / 2) oM oM,aH oM oM]
def dQ (a0:bV×Int×ZL×cV)(a1 a2:Int):=(cW a0.1 (Aw.part (a0.2.2.1) a1 a2))
def iK (a0:bV×Int×ZL×cV)(a1 a2:Int):=(aD0 (dQ a0 a1 a2) (cI (dQ a0 a1 a2)))
def aKq (a0:bV×Int×ZL×cV)(a1 a2:Int):=(aD3 (a0.1,a0.2.1,(a0.2.2.1,(a0.2.2.2++[(a1,a2,(-1),(-1),(cI (dQ a0 a1 a2)),(iK a0 a1 a2).1)]))) (Aw.part (a0.2.2.1) a1 a2))
def aA4 (a0:bV×Int×ZL×cV)(a1 a2:Int):=(jJ (a0.2.2.1) (tN a1) (tN a2 - tN a1) ((a0.1,a0.2.1,(a0.2.2.1,(a0.2.2.2++[(a1,a2,(-1),(-1),(cI (dQ a0 a1 a2)),(iK a0 a1 a2).1)]))),(aKq a0 a1 a2).2))
def fN (rr:eG->(Int)->(Int)->Int×bV×Int×ZL×cV)(a0:bV×Int×ZL×cV)(a1 a2:Int):=(rr (a0.1,a0.2.1,((aA4 a0 a1 a2),(a0.2.2.2++[(a1,a2,(-1),(-1),(cI (dQ a0 a1 a2)),(iK a0 a1 a2).1)]))) a1 (W (a1+(W (tD (W ((W (a2 - a1))+1)) 2)))))
def aW (rr:eG->(Int)->(Int)->Int×bV×Int×ZL×cV)(a0:bV×Int×ZL×cV)(a1 a2:Int):=(rr (a0.1,(fN (rr) a0 a1 a2).2.2.1,((fN (rr) a0 a1 a2).2.2.2.1,(fN (rr) a0 a1 a2).2.2.2.2)) (W (a1+(W (tD (W ((W (a2 - a1))+1)) 2)))) a2)
def cD:Nat->eG->(Int)->(Int)->Int×bV×Int×ZL×cV | 0,_,_,_=>dF | nr+1,a0,a1,a2 => (bif (decide (((W (a2 - a1)):Int) > a0.2.1))then((a0.2.2.2.length:Int),(a0.1,(aW (cD nr) a0 a1 a2).2.2.1,((aW (cD nr) a0 a1 a2).2.2.2.1,(((aW (cD nr) a0 a1 a2).2.2.2.2.set (tN (a0.2.2.2.length:Int)) (((aW (cD nr) a0 a1 a2).2.2.2.2.getD (tN (a0.2.2.2.length:Int)) dF).1,((aW (cD nr) a0 a1 a2).2.2.2.2.getD (tN (a0.2.2.2.length:Int)) dF).2.1,(fN (cD nr) a0 a1 a2).1,((aW (cD nr) a0 a1 a2).2.2.2.2.getD (tN (a0.2.2.2.length:Int)) dF).2.2.2.1,((aW (cD nr) a0 a1 a2).2.2.2.2.getD (tN (a0.2.2.2.length:Int)) dF).2.2.2.2.1,((aW (cD nr) a0 a1 a2).2.2.2.2.getD (tN (a0.2.2.2.length:Int)) dF).2.2.2.2.2)).set (tN (a0.2.2.2.length:Int)) ((((aW (cD nr) a0 a1 a2).2.2.2.2.set (tN (a0.2.2.2.length:Int)) (((aW (cD nr) a0 a1 a2).2.2.2.2.getD (tN (a0.2.2.2.length:Int)) dF).1,((aW (cD nr) a0 a1 a2).2.2.2.2.getD (tN (a0.2.2.2.length:Int)) dF).2.1,(fN (cD nr) a0 a1 a2).1,((aW (cD nr) a0 a1 a2).2.2.2.2.getD (tN (a0.2.2.2.length:Int)) dF).2.2.2.1,((aW (cD nr) a0 a1 a2).2.2.2.2.getD (tN (a0.2.2.2.length:Int)) dF).2.2.2.2.1,((aW (cD nr) a0 a1 a2).2.2.2.2.getD (tN (a0.2.2.2.length:Int)) dF).2.2.2.2.2)).getD (tN (a0.2.2.2.length:Int)) dF).1,(((aW (cD nr) a0 a1 a2).2.2.2.2.set (tN (a0.2.2.2.length:Int)) (((aW (cD nr) a0 a1 a2).2.2.2.2.getD (tN (a0.2.2.2.length:Int)) dF).1,((aW (cD nr) a0 a1 a2).2.2.2.2.getD (tN (a0.2.2.2.length:Int)) dF).2.1,(fN (cD nr) a0 a1 a2).1,((aW (cD nr) a0 a1 a2).2.2.2.2.getD (tN (a0.2.2.2.length:Int)) dF).2.2.2.1,((aW (cD nr) a0 a1 a2).2.2.2.2.getD (tN (a0.2.2.2.length:Int)) dF).2.2.2.2.1,((aW (cD nr) a0 a1 a2).2.2.2.2.getD (tN (a0.2.2.2.length:Int)) dF).2.2.2.2.2)).getD (tN (a0.2.2.2.length:Int)) dF).2.1,(((aW (cD nr) a0 a1 a2).2.2.2.2.set (tN (a0.2.2.2.length:Int)) (((aW (cD nr) a0 a1 a2).2.2.2.2.getD (tN (a0.2.2.2.length:Int)) dF).1,((aW (cD nr) a0 a1 a2).2.2.2.2.getD (tN (a0.2.2.2.length:Int)) dF).2.1,(fN (cD nr) a0 a1 a2).1,((aW (cD nr) a0 a1 a2).2.2.2.2.getD (tN (a0.2.2.2.length:Int)) dF).2.2.2.1,((aW (cD nr) a0 a1 a2).2.2.2.2.getD (tN (a0.2.2.2.length:Int)) dF).2.2.2.2.1,((aW (cD nr) a0 a1 a2).2.2.2.2.getD (tN (a0.2.2.2.length:Int)) dF).2.2.2.2.2)).getD (tN (a0.2.2.2.length:Int)) dF).2.2.1,(aW (cD nr) a0 a1 a2).1,(((aW (cD nr) a0 a1 a2).2.2.2.2.set (tN (a0.2.2.2.length:Int)) (((aW (cD nr) a0 a1 a2).2.2.2.2.getD (tN (a0.2.2.2.length:Int)) dF).1,((aW (cD nr) a0 a1 a2).2.2.2.2.getD (tN (a0.2.2.2.length:Int)) dF).2.1,(fN (cD nr) a0 a1 a2).1,((aW (cD nr) a0 a1 a2).2.2.2.2.getD (tN (a0.2.2.2.length:Int)) dF).2.2.2.1,((aW (cD nr) a0 a1 a2).2.2.2.2.getD (tN (a0.2.2.2.length:Int)) dF).2.2.2.2.1,((aW (cD nr) a0 a1 a2).2.2.2.2.getD (tN (a0.2.2.2.length:Int)) dF).2.2.2.2.2)).getD (tN (a0.2.2.2.length:Int)) dF).2.2.2.2.1,(((aW (cD nr) a0 a1 a2).2.2.2.2.set (tN (a0.2.2.2.length:Int)) (((aW (cD nr) a0 a1 a2).2.2.2.2.getD (tN (a0.2.2.2.length:Int)) dF).1,((aW (cD nr) a0 a1 a2).2.2.2.2.getD (tN (a0.2.2.2.length:Int)) dF).2.1,(fN (cD nr) a0 a1 a2).1,((aW (cD nr) a0 a1 a2).2.2.2.2.getD (tN (a0.2.2.2.length:Int)) dF).2.2.2.1,((aW (cD nr) a0 a1 a2).2.2.2.2.getD (tN (a0.2.2.2.length:Int)) dF).2.2.2.2.1,((aW (cD nr) a0 a1 a2).2.2.2.2.getD (tN (a0.2.2.2.length:Int)) dF).2.2.2.2.2)).getD (tN (a0.2.2.2.length:Int)) dF).2.2.2.2.2)))))else((a0.2.2.2.length:Int),(a0.1,a0.2.1,(a0.2.2.1,(a0.2.2.2++[(a1,a2,(-1),(-1),(cI (dQ a0 a1 a2)),(iK a0 a1 a2).1)])))))
def F76 (a0:bV×Int×ZL×cV)(a1 a2:Int):Int×bV×Int×ZL×cV:=cD (tN (a2 - a1)+1) a0 a1 a2
structure ADDR (b r:BU) (i k:Int):Prop where
 pan:r.1=b.1
 leaf:r.2.1=b.2.1
 ol:r.2.2.1.length=b.2.2.1.length
 oi:InR b.1.length r.2.2.1
 lo:b.2.2.2.length < r.2.2.2.length
 hi:r.2.2.2.length<=b.2.2.2.length+2*(k - i) - 1
section
variable {nr : Nat} {b : BU} {i k : Int} (hp : PADD b i k)
include hp
theorem aA5:(aA4 b i k).length=b.2.2.1.length/\InR b.1.length (aA4 b i k) :=
 aZv (by have:=hp.rng;omega) hp.inr
theorem aP9 {x:Int×Int×Int×Int×Zt×Int} (h2:2<=k - i):PADD (b.1,b.2.1,(aA4 b i k),b.2.2.2++[x]) i (W (i+(W (tD (W ((W (k - i))+1)) 2)))):=by
 have h:=hp.rng;have hn:=hp.nds;rw [aD4 ⟨h.1,h.2.1,by omega⟩];have h4:=aA5 hp;exact⟨h4.2,⟨h.1,by omega,by rw [h4.1];omega,by rw [h4.1];omega⟩,by simp only [List.length_append,List.length_cons,List.length_nil];omega,hp.lf⟩
end
theorem aTj {b r:BU} {i k:Int} {o:ZL} {x:Int×Int×Int×Int×Zt×Int} (hp:PADD b i k)(ho:o.length=b.2.2.1.length)(h2:2<=k - i)(hr:ADDR (b.1,b.2.1,o,b.2.2.2++[x]) r i (W (i+(W (tD (W ((W (k - i))+1)) 2))))) :
 PADD (b.1,r.2.1,r.2.2.1,r.2.2.2) (W (i+(W (tD (W ((W (k - i))+1)) 2)))) k:=by
 have h:=hp.rng;have hn:=hp.nds;obtain⟨g1,g2,g3,g4,g5,g6⟩:=hr;rw [aD4 ⟨h.1,h.2.1,by omega⟩] at g6 ⊢;simp only [List.length_append,List.length_cons,List.length_nil] at g3 g5 g6 g2;exact⟨g4,⟨by omega,by omega,by rw [g3];omega,by rw [g3];omega⟩,by simp only;omega,by rw [g2];exact hp.lf⟩
theorem yN:∀(nr:Nat) (b:BU) (i k:Int),PADD b i k->tN (k - i) < nr->ADDR b (cD nr b i k).2 i k
 | 0,b,i,k,_,hn=>absurd hn (dX _)
 | nr+1,b,i,k,hp,hn=>by
  have h:=hp.rng;have hn2:=hp.nds;have hl:=hp.lf;have hW:W (k - i)=k - i:=aH oM oM;simp only [cD];by_cases h0:W (k - i) > b.2.1
  ·rw [bX h0,cond_true];have h2:2<=k - i:=by omega
   have hm:=aD4 ⟨h.1,h.2.1,by omega⟩;have h5:ADDR _ (fN (cD nr) b i k).2 i _:=yN nr _ _ _ (aP9 hp h2) (by rw [hm];omega);have h6:ADDR _ (aW (cD nr) b i k).2 _ k:=yN nr _ _ _ (aTj hp (aA5 hp).1 h2 h5) (by rw [hm];omega);have g3:=h5.ol;have g5:=h5.lo;have g6:=h5.hi;have f3:=h6.ol;have f5:=h6.lo;have f6:=h6.hi;rw [hm] at g6 f6;simp only [List.length_append,List.length_cons,List.length_nil] at g3 g5 g6 f3 f5 f6;refine⟨rfl,h6.leaf.trans h5.leaf,?_,h6.oi,?_,?_⟩
   ·show(aW (cD nr) b i k).2.2.2.1.length=_;rw [f3,g3];exact(aA5 hp).1
   ·simp only [List.length_set];omega
   ·simp only [List.length_set];omega
  ·rw [cA h0,cond_false];exact⟨rfl,rfl,rfl,hp.inr,by simp,by simp;omega⟩
theorem bE5:∀(nr:Nat) (a0:bV×Int×ZL×cV) (a1 a2:Int) (l0_1:a0.1.length<=2^63-1) (l0_2_2_1:a0.2.2.1.length<=2^63-1) (l0_2_2_2:a0.2.2.2.length<=2^63-1) (hp:PADD a0 a1 a2),tN (a2 - a1) < nr->Con Tryz.prog 76 [(.p 0 0),(iv a1),(iv a2)] [(.live true false [(.s 1 0 a0.1.length 10),(iv a0.2.1),(.s 2 0 a0.2.2.1.length 1),(.s 3 0 a0.2.2.2.length 8)]),(.live false true (flat dI a0.1)),(.live true true (flat c3 a0.2.2.1)),(.live true true (flat cR a0.2.2.2))] (iv (cD nr a0 a1 a2).1) [(.live true true (flat cR (cD nr a0 a1 a2).2.2.2.2))] [(.live true false [(.s 1 0 a0.1.length 10),(iv (cD nr a0 a1 a2).2.2.1),(.s 2 0 (cD nr a0 a1 a2).2.2.2.1.length 1),(.s 4 0 (cD nr a0 a1 a2).2.2.2.2.length 8)]),.un,(.live true true (flat c3 (cD nr a0 a1 a2).2.2.2.1)),.dead]:=by
 intro nr
 induction nr with
 | zero=>intro a0 a1 a2 l0_1 l0_2_2_1 l0_2_2_2 hp hlt;exact absurd hlt (dX _)
 | succ nr ihr =>
 intro a0 a1 a2 l0_1 l0_2_2_1 l0_2_2_2 hp hlt;refine cS Tryz.func76 fun cx hcx=>?_
 have hpr:=hp.rng;have hpn:=hp.nds;have hpl:=hp.lf;have hpt:=bD (l:=a0.2.2.1) (a:=a1) (b:=a2) oM;have hm1:(dQ a0 a1 a2).length=_:=uO a0.1 (Aw.part a0.2.2.1 a1 a2);have hW:W (a2 - a1)=a2 - a1:=aH oM oM;have hmid:=aD4 (i:=a1) (k:=a2) oM;have h4:=aA5 hp
 try (have _:=h0;rw [hmid] at g6 f6;simp only [List.length_append,List.length_cons,List.length_nil] at g3 g5 g6 f3 f5 f6)
 let t0:SL:=[.sub a1 a2 (a0.2.2.1.length),.c [1,2] (show Con Tryz.prog 25 [(.s 0 0 a0.1.length 10),(.s 1 (0+tN a1*1) (tN a2 - tN a1) 1)] [(.live false true (flat dI a0.1)),(.live false true (flat c3 a0.2.2.1))] (.s 2 0 (dQ a0 a1 a2).length 10) [(.live true true (flat dI (dQ a0 a1 a2)))] from Con.part (l:=a0.2.2.1) (a:=a1) (b:=a2) (c:=c3) (pre:=[(.s 0 0 a0.1.length 10)]) (post:=[]) (bs1:=[(.live false true (flat dI a0.1))]) (bs2:=[]) 1 aF oM rfl (by rfl) (aOw a0.1 (Aw.part (a0.2.2.1) a1 a2) oM oM (hp.inr.part a1 a2) oM)),.c [4] (aZs (dQ a0 a1 a2) oM oM),.c [4] (aZt (dQ a0 a1 a2) (cI (dQ a0 a1 a2)) oM oM),.p (show((flat cR a0.2.2.2).length=a0.2.2.2.length*8/\a0.2.2.2.length+1<=2 ^ 40/\(a0.2.2.2.length+1)*64<=2 ^ 47) from iS cC oM oM)];rw [cD];cases h0:(decide (((W (a2 - a1)):Int) > a0.2.1))
 case true=>
  have q0:=eS h0
  try have h2:2<=a2 - a1:=(fun _=>by omega) h0
  try have h5:ADDR _ (fN (cD nr) a0 a1 a2).2 a1 _:=(fun _=>yN nr _ _ _ (aP9 hp h2) (by rw [hmid];omega)) h0
  try have h6:ADDR _ (aW (cD nr) a0 a1 a2).2 _ a2:=(fun _=>yN nr _ _ _ (aTj hp (aA5 hp).1 h2 h5) (by rw [hmid];omega)) h0
  try have g5:=(fun _=>h5.lo) h0
  try have g6:=(fun _=>h5.hi) h0
  try have g3:=(fun _=>h5.ol) h0
  try have f5:=(fun _=>h6.lo) h0
  try have f6:=(fun _=>h6.hi) h0
  try have f3:=(fun _=>h6.ol) h0
  try (have _:=h0;rw [hmid] at g6 f6;simp only [List.length_append,List.length_cons,List.length_nil] at g3 g5 g6 f3 f5 f6)
  simp only [vF]
  try dsimp only [bN]
  try dsimp only
  rw [show flat cR (((aW (cD nr) a0 a1 a2).2.2.2.2.set (tN (a0.2.2.2.length:Int)) (((aW (cD nr) a0 a1 a2).2.2.2.2.getD (tN (a0.2.2.2.length:Int)) dF).1,((aW (cD nr) a0 a1 a2).2.2.2.2.getD (tN (a0.2.2.2.length:Int)) dF).2.1,(fN (cD nr) a0 a1 a2).1,((aW (cD nr) a0 a1 a2).2.2.2.2.getD (tN (a0.2.2.2.length:Int)) dF).2.2.2.1,((aW (cD nr) a0 a1 a2).2.2.2.2.getD (tN (a0.2.2.2.length:Int)) dF).2.2.2.2.1,((aW (cD nr) a0 a1 a2).2.2.2.2.getD (tN (a0.2.2.2.length:Int)) dF).2.2.2.2.2)).set (tN (a0.2.2.2.length:Int)) ((((aW (cD nr) a0 a1 a2).2.2.2.2.set (tN (a0.2.2.2.length:Int)) (((aW (cD nr) a0 a1 a2).2.2.2.2.getD (tN (a0.2.2.2.length:Int)) dF).1,((aW (cD nr) a0 a1 a2).2.2.2.2.getD (tN (a0.2.2.2.length:Int)) dF).2.1,(fN (cD nr) a0 a1 a2).1,((aW (cD nr) a0 a1 a2).2.2.2.2.getD (tN (a0.2.2.2.length:Int)) dF).2.2.2.1,((aW (cD nr) a0 a1 a2).2.2.2.2.getD (tN (a0.2.2.2.length:Int)) dF).2.2.2.2.1,((aW (cD nr) a0 a1 a2).2.2.2.2.getD (tN (a0.2.2.2.length:Int)) dF).2.2.2.2.2)).getD (tN (a0.2.2.2.length:Int)) dF).1,(((aW (cD nr) a0 a1 a2).2.2.2.2.set (tN (a0.2.2.2.length:Int)) (((aW (cD nr) a0 a1 a2).2.2.2.2.getD (tN (a0.2.2.2.length:Int)) dF).1,((aW (cD nr) a0 a1 a2).2.2.2.2.getD (tN (a0.2.2.2.length:Int)) dF).2.1,(fN (cD nr) a0 a1 a2).1,((aW (cD nr) a0 a1 a2).2.2.2.2.getD (tN (a0.2.2.2.length:Int)) dF).2.2.2.1,((aW (cD nr) a0 a1 a2).2.2.2.2.getD (tN (a0.2.2.2.length:Int)) dF).2.2.2.2.1,((aW (cD nr) a0 a1 a2).2.2.2.2.getD (tN (a0.2.2.2.length:Int)) dF).2.2.2.2.2)).getD (tN (a0.2.2.2.length:Int)) dF).2.1,(((aW (cD nr) a0 a1 a2).2.2.2.2.set (tN (a0.2.2.2.length:Int)) (((aW (cD nr) a0 a1 a2).2.2.2.2.getD (tN (a0.2.2.2.length:Int)) dF).1,((aW (cD nr) a0 a1 a2).2.2.2.2.getD (tN (a0.2.2.2.length:Int)) dF).2.1,(fN (cD nr) a0 a1 a2).1,((aW (cD nr) a0 a1 a2).2.2.2.2.getD (tN (a0.2.2.2.length:Int)) dF).2.2.2.1,((aW (cD nr) a0 a1 a2).2.2.2.2.getD (tN (a0.2.2.2.length:Int)) dF).2.2.2.2.1,((aW (cD nr) a0 a1 a2).2.2.2.2.getD (tN (a0.2.2.2.length:Int)) dF).2.2.2.2.2)).getD (tN (a0.2.2.2.length:Int)) dF).2.2.1,(aW (cD nr) a0 a1 a2).1,(((aW (cD nr) a0 a1 a2).2.2.2.2.set (tN (a0.2.2.2.length:Int)) (((aW (cD nr) a0 a1 a2).2.2.2.2.getD (tN (a0.2.2.2.length:Int)) dF).1,((aW (cD nr) a0 a1 a2).2.2.2.2.getD (tN (a0.2.2.2.length:Int)) dF).2.1,(fN (cD nr) a0 a1 a2).1,((aW (cD nr) a0 a1 a2).2.2.2.2.getD (tN (a0.2.2.2.length:Int)) dF).2.2.2.1,((aW (cD nr) a0 a1 a2).2.2.2.2.getD (tN (a0.2.2.2.length:Int)) dF).2.2.2.2.1,((aW (cD nr) a0 a1 a2).2.2.2.2.getD (tN (a0.2.2.2.length:Int)) dF).2.2.2.2.2)).getD (tN (a0.2.2.2.length:Int)) dF).2.2.2.2.1,(((aW (cD nr) a0 a1 a2).2.2.2.2.set (tN (a0.2.2.2.length:Int)) (((aW (cD nr) a0 a1 a2).2.2.2.2.getD (tN (a0.2.2.2.length:Int)) dF).1,((aW (cD nr) a0 a1 a2).2.2.2.2.getD (tN (a0.2.2.2.length:Int)) dF).2.1,(fN (cD nr) a0 a1 a2).1,((aW (cD nr) a0 a1 a2).2.2.2.2.getD (tN (a0.2.2.2.length:Int)) dF).2.2.2.1,((aW (cD nr) a0 a1 a2).2.2.2.2.getD (tN (a0.2.2.2.length:Int)) dF).2.2.2.2.1,((aW (cD nr) a0 a1 a2).2.2.2.2.getD (tN (a0.2.2.2.length:Int)) dF).2.2.2.2.2)).getD (tN (a0.2.2.2.length:Int)) dF).2.2.2.2.2))=(splice (splice (flat cR (aW (cD nr) a0 a1 a2).2.2.2.2) (0+tN (a0.2.2.2.length:Int)*8+2) [(iv (fN (cD nr) a0 a1 a2).1)]) (0+tN (a0.2.2.2.length:Int)*8+3) [(iv (aW (cD nr) a0 a1 a2).1)]) from Eq.symm (by rw [show(splice (flat cR (aW (cD nr) a0 a1 a2).2.2.2.2) (0+tN (a0.2.2.2.length:Int)*8+2) [(iv (fN (cD nr) a0 a1 a2).1)])=flat cR ((aW (cD nr) a0 a1 a2).2.2.2.2.set (tN (a0.2.2.2.length:Int)) (((aW (cD nr) a0 a1 a2).2.2.2.2.getD (tN (a0.2.2.2.length:Int)) dF).1,((aW (cD nr) a0 a1 a2).2.2.2.2.getD (tN (a0.2.2.2.length:Int)) dF).2.1,(fN (cD nr) a0 a1 a2).1,((aW (cD nr) a0 a1 a2).2.2.2.2.getD (tN (a0.2.2.2.length:Int)) dF).2.2.2.1,((aW (cD nr) a0 a1 a2).2.2.2.2.getD (tN (a0.2.2.2.length:Int)) dF).2.2.2.2.1,((aW (cD nr) a0 a1 a2).2.2.2.2.getD (tN (a0.2.2.2.length:Int)) dF).2.2.2.2.2)) from(bE cC oL (o:=2) (d:=dF) (Nb rfl) rfl)];exact bE cC oL (o:=3) (d:=dF) (Nb rfl) rfl)]
  try rw [show List.length (α:=Int×Int×Int×Int×Zt×Int) (((aW (cD nr) a0 a1 a2).2.2.2.2.set (tN (a0.2.2.2.length:Int)) (((aW (cD nr) a0 a1 a2).2.2.2.2.getD (tN (a0.2.2.2.length:Int)) dF).1,((aW (cD nr) a0 a1 a2).2.2.2.2.getD (tN (a0.2.2.2.length:Int)) dF).2.1,(fN (cD nr) a0 a1 a2).1,((aW (cD nr) a0 a1 a2).2.2.2.2.getD (tN (a0.2.2.2.length:Int)) dF).2.2.2.1,((aW (cD nr) a0 a1 a2).2.2.2.2.getD (tN (a0.2.2.2.length:Int)) dF).2.2.2.2.1,((aW (cD nr) a0 a1 a2).2.2.2.2.getD (tN (a0.2.2.2.length:Int)) dF).2.2.2.2.2)).set (tN (a0.2.2.2.length:Int)) ((((aW (cD nr) a0 a1 a2).2.2.2.2.set (tN (a0.2.2.2.length:Int)) (((aW (cD nr) a0 a1 a2).2.2.2.2.getD (tN (a0.2.2.2.length:Int)) dF).1,((aW (cD nr) a0 a1 a2).2.2.2.2.getD (tN (a0.2.2.2.length:Int)) dF).2.1,(fN (cD nr) a0 a1 a2).1,((aW (cD nr) a0 a1 a2).2.2.2.2.getD (tN (a0.2.2.2.length:Int)) dF).2.2.2.1,((aW (cD nr) a0 a1 a2).2.2.2.2.getD (tN (a0.2.2.2.length:Int)) dF).2.2.2.2.1,((aW (cD nr) a0 a1 a2).2.2.2.2.getD (tN (a0.2.2.2.length:Int)) dF).2.2.2.2.2)).getD (tN (a0.2.2.2.length:Int)) dF).1,(((aW (cD nr) a0 a1 a2).2.2.2.2.set (tN (a0.2.2.2.length:Int)) (((aW (cD nr) a0 a1 a2).2.2.2.2.getD (tN (a0.2.2.2.length:Int)) dF).1,((aW (cD nr) a0 a1 a2).2.2.2.2.getD (tN (a0.2.2.2.length:Int)) dF).2.1,(fN (cD nr) a0 a1 a2).1,((aW (cD nr) a0 a1 a2).2.2.2.2.getD (tN (a0.2.2.2.length:Int)) dF).2.2.2.1,((aW (cD nr) a0 a1 a2).2.2.2.2.getD (tN (a0.2.2.2.length:Int)) dF).2.2.2.2.1,((aW (cD nr) a0 a1 a2).2.2.2.2.getD (tN (a0.2.2.2.length:Int)) dF).2.2.2.2.2)).getD (tN (a0.2.2.2.length:Int)) dF).2.1,(((aW (cD nr) a0 a1 a2).2.2.2.2.set (tN (a0.2.2.2.length:Int)) (((aW (cD nr) a0 a1 a2).2.2.2.2.getD (tN (a0.2.2.2.length:Int)) dF).1,((aW (cD nr) a0 a1 a2).2.2.2.2.getD (tN (a0.2.2.2.length:Int)) dF).2.1,(fN (cD nr) a0 a1 a2).1,((aW (cD nr) a0 a1 a2).2.2.2.2.getD (tN (a0.2.2.2.length:Int)) dF).2.2.2.1,((aW (cD nr) a0 a1 a2).2.2.2.2.getD (tN (a0.2.2.2.length:Int)) dF).2.2.2.2.1,((aW (cD nr) a0 a1 a2).2.2.2.2.getD (tN (a0.2.2.2.length:Int)) dF).2.2.2.2.2)).getD (tN (a0.2.2.2.length:Int)) dF).2.2.1,(aW (cD nr) a0 a1 a2).1,(((aW (cD nr) a0 a1 a2).2.2.2.2.set (tN (a0.2.2.2.length:Int)) (((aW (cD nr) a0 a1 a2).2.2.2.2.getD (tN (a0.2.2.2.length:Int)) dF).1,((aW (cD nr) a0 a1 a2).2.2.2.2.getD (tN (a0.2.2.2.length:Int)) dF).2.1,(fN (cD nr) a0 a1 a2).1,((aW (cD nr) a0 a1 a2).2.2.2.2.getD (tN (a0.2.2.2.length:Int)) dF).2.2.2.1,((aW (cD nr) a0 a1 a2).2.2.2.2.getD (tN (a0.2.2.2.length:Int)) dF).2.2.2.2.1,((aW (cD nr) a0 a1 a2).2.2.2.2.getD (tN (a0.2.2.2.length:Int)) dF).2.2.2.2.2)).getD (tN (a0.2.2.2.length:Int)) dF).2.2.2.2.1,(((aW (cD nr) a0 a1 a2).2.2.2.2.set (tN (a0.2.2.2.length:Int)) (((aW (cD nr) a0 a1 a2).2.2.2.2.getD (tN (a0.2.2.2.length:Int)) dF).1,((aW (cD nr) a0 a1 a2).2.2.2.2.getD (tN (a0.2.2.2.length:Int)) dF).2.1,(fN (cD nr) a0 a1 a2).1,((aW (cD nr) a0 a1 a2).2.2.2.2.getD (tN (a0.2.2.2.length:Int)) dF).2.2.2.1,((aW (cD nr) a0 a1 a2).2.2.2.2.getD (tN (a0.2.2.2.length:Int)) dF).2.2.2.2.1,((aW (cD nr) a0 a1 a2).2.2.2.2.getD (tN (a0.2.2.2.length:Int)) dF).2.2.2.2.2)).getD (tN (a0.2.2.2.length:Int)) dF).2.2.2.2.2))=(aW (cD nr) a0 a1 a2).2.2.2.2.length from by first | simp;done | omega]
  exact zE (t0++[.d h0,.sub a1 a2 (a0.2.2.1.length),.sub a1 a2 (a0.2.2.1.length),.c [0,1,2,7] (show Con Tryz.prog 125 [(.p 0 0),(.s 2 (0+tN a1*1) (tN a2 - tN a1) 1)] [(.live false false [(.s 1 0 a0.1.length 10),(iv a0.2.1),(.s 2 0 a0.2.2.1.length 1),(.s 3 0 (a0.2.2.2.length+1) 8)]),(.live false true (flat dI a0.1)),(.live false true (flat c3 a0.2.2.1)),(.live false true (flat cR a0.2.2.2++[(iv a1),(iv a2),(iv (-1)),(iv (-1)),(iv (cI (dQ a0 a1 a2)).1),(iv (cI (dQ a0 a1 a2)).2.1),(iv (cI (dQ a0 a1 a2)).2.2),(iv (iK a0 a1 a2).1)]))] (.a [(.p 0 0),(iv (aKq a0 a1 a2).2)]) [] from Con.alias (l:=a0.2.2.1) (a:=a1) (b:=a2) (c:=c3) (pre:=[(.p 0 0)]) (post:=[]) (bs:=[(.live false false [(.s 1 0 a0.1.length 10),(iv a0.2.1),(.s 2 0 a0.2.2.1.length 1),(.s 3 0 (a0.2.2.2.length+1) 8)]),(.live false true (flat dI a0.1)),(.live false true (flat c3 a0.2.2.1)),(.live false true (flat cR a0.2.2.2++[(iv a1),(iv a2),(iv (-1)),(iv (-1)),(iv (cI (dQ a0 a1 a2)).1),(iv (cI (dQ a0 a1 a2)).2.1),(iv (cI (dQ a0 a1 a2)).2.2),(iv (iK a0 a1 a2).1)]))]) 2 aF oM rfl (by rfl) (by have q:=(aZu (a0.1,a0.2.1,(a0.2.2.1,(a0.2.2.2++[(a1,a2,(-1),(-1),(cI (dQ a0 a1 a2)),(iK a0 a1 a2).1)]))) (Aw.part (a0.2.2.1) a1 a2) oM oM (by(try simp only [Lt]);omega) oM (hp.inr.part a1 a2) oM);(try dsimp only at q);rw [show flat cR (a0.2.2.2++[(a1,a2,(-1),(-1),(cI (dQ a0 a1 a2)),(iK a0 a1 a2).1)])=(flat cR a0.2.2.2++[(iv a1),(iv a2),(iv (-1)),(iv (-1)),(iv (cI (dQ a0 a1 a2)).1),(iv (cI (dQ a0 a1 a2)).2.1),(iv (cI (dQ a0 a1 a2)).2.2),(iv (iK a0 a1 a2).1)]) from bQ] at q;(try rw [show List.length (α:=Int×Int×Int×Int×Zt×Int) (a0.2.2.2++[(a1,a2,(-1),(-1),(cI (dQ a0 a1 a2)),(iK a0 a1 a2).1)])=(a0.2.2.2.length+1) from by first | simp;done | omega] at q);exact q)),.c [2,0,1,7] (by have q:=(aKo (a0.2.2.1) (tN a1) (tN a2 - tN a1) ((a0.1,a0.2.1,(a0.2.2.1,(a0.2.2.2++[(a1,a2,(-1),(-1),(cI (dQ a0 a1 a2)),(iK a0 a1 a2).1)]))),(aKq a0 a1 a2).2) oM oM oM (by(try simp only [Lt]);omega) oM hp.inr);(try dsimp only at q);rw [show flat cR (a0.2.2.2++[(a1,a2,(-1),(-1),(cI (dQ a0 a1 a2)),(iK a0 a1 a2).1)])=(flat cR a0.2.2.2++[(iv a1),(iv a2),(iv (-1)),(iv (-1)),(iv (cI (dQ a0 a1 a2)).1),(iv (cI (dQ a0 a1 a2)).2.1),(iv (cI (dQ a0 a1 a2)).2.2),(iv (iK a0 a1 a2).1)]) from bQ] at q;(try rw [show List.length (α:=Int×Int×Int×Int×Zt×Int) (a0.2.2.2++[(a1,a2,(-1),(-1),(cI (dQ a0 a1 a2)),(iK a0 a1 a2).1)])=(a0.2.2.2.length+1) from by first | simp;done | omega] at q);exact q),.p (show(2:Int)≠0 from by decide),.c [0,1,2,7] (by have q:=(ihr (a0.1,a0.2.1,((aA4 a0 a1 a2),(a0.2.2.2++[(a1,a2,(-1),(-1),(cI (dQ a0 a1 a2)),(iK a0 a1 a2).1)]))) a1 (W (a1+(W (tD (W ((W (a2 - a1))+1)) 2)))) oM (by(try simp only [Lt]);omega) (by(try simp only [Lt]);omega) (by first | exact aP9 hp h2 | exact aTj hp (aA5 hp).1 h2 h5) (by rw [hmid];omega));(try dsimp only at q);rw [show flat cR (a0.2.2.2++[(a1,a2,(-1),(-1),(cI (dQ a0 a1 a2)),(iK a0 a1 a2).1)])=(flat cR a0.2.2.2++[(iv a1),(iv a2),(iv (-1)),(iv (-1)),(iv (cI (dQ a0 a1 a2)).1),(iv (cI (dQ a0 a1 a2)).2.1),(iv (cI (dQ a0 a1 a2)).2.2),(iv (iK a0 a1 a2).1)]) from bQ] at q;(try rw [show List.length (α:=Int) (aA4 a0 a1 a2)=a0.2.2.1.length from by first | simp;done | omega] at q);(try rw [show List.length (α:=Int×Int×Int×Int×Zt×Int) (a0.2.2.2++[(a1,a2,(-1),(-1),(cI (dQ a0 a1 a2)),(iK a0 a1 a2).1)])=(a0.2.2.2.length+1) from by first | simp;done | omega] at q);exact q),.c [0,1,2,8] (ihr (a0.1,(fN (cD nr) a0 a1 a2).2.2.1,((fN (cD nr) a0 a1 a2).2.2.2.1,(fN (cD nr) a0 a1 a2).2.2.2.2)) (W (a1+(W (tD (W ((W (a2 - a1))+1)) 2)))) a2 oM (by(try simp only [Lt]);omega) (by(try simp only [Lt]);omega) (by first | exact aP9 hp h2 | exact aTj hp (aA5 hp).1 h2 h5) (by rw [hmid];omega)),.i (a0.2.2.2.length:Int) ((aW (cD nr) a0 a1 a2).2.2.2.2.length),.p (show((0+tN (a0.2.2.2.length:Int)*8+2)+1<=(flat cR (aW (cD nr) a0 a1 a2).2.2.2.2).length) from(dR cC oL (o:=2) (Nb rfl))),.i (a0.2.2.2.length:Int) ((aW (cD nr) a0 a1 a2).2.2.2.2.length),.p (show((0+tN (a0.2.2.2.length:Int)*8+3)+1<=(splice (flat cR (aW (cD nr) a0 a1 a2).2.2.2.2) (0+tN (a0.2.2.2.length:Int)*8+2) [(iv (fN (cD nr) a0 a1 a2).1)]).length) from(by rw [show(splice (flat cR (aW (cD nr) a0 a1 a2).2.2.2.2) (0+tN (a0.2.2.2.length:Int)*8+2) [(iv (fN (cD nr) a0 a1 a2).1)])=flat cR ((aW (cD nr) a0 a1 a2).2.2.2.2.set (tN (a0.2.2.2.length:Int)) (((aW (cD nr) a0 a1 a2).2.2.2.2.getD (tN (a0.2.2.2.length:Int)) dF).1,((aW (cD nr) a0 a1 a2).2.2.2.2.getD (tN (a0.2.2.2.length:Int)) dF).2.1,(fN (cD nr) a0 a1 a2).1,((aW (cD nr) a0 a1 a2).2.2.2.2.getD (tN (a0.2.2.2.length:Int)) dF).2.2.2.1,((aW (cD nr) a0 a1 a2).2.2.2.2.getD (tN (a0.2.2.2.length:Int)) dF).2.2.2.2.1,((aW (cD nr) a0 a1 a2).2.2.2.2.getD (tN (a0.2.2.2.length:Int)) dF).2.2.2.2.2)) from(bE cC oL (o:=2) (d:=dF) (Nb rfl) rfl)];exact dR cC oL (o:=3) (Nb rfl)))]) [] [0,2,3] [9] hcx oK
 try (have _:=h0;rw [hmid] at g6 f6;simp only [List.length_append,List.length_cons,List.length_nil] at g3 g5 g6 f3 f5 f6)
 simp only [vF]
 try dsimp only [bN]
 try dsimp only
 rw [show flat cR (a0.2.2.2++[(a1,a2,(-1),(-1),(cI (dQ a0 a1 a2)),(iK a0 a1 a2).1)])=(flat cR a0.2.2.2++[(iv a1),(iv a2),(iv (-1)),(iv (-1)),(iv (cI (dQ a0 a1 a2)).1),(iv (cI (dQ a0 a1 a2)).2.1),(iv (cI (dQ a0 a1 a2)).2.2),(iv (iK a0 a1 a2).1)]) from bQ]
 try rw [show List.length (α:=Int×Int×Int×Int×Zt×Int) (a0.2.2.2++[(a1,a2,(-1),(-1),(cI (dQ a0 a1 a2)),(iK a0 a1 a2).1)])=(a0.2.2.2.length+1) from by first | simp;done | omega]
 exact zE (t0++[.d h0]) [] [0,2,3] [7] hcx oK
theorem C76 (a0:bV×Int×ZL×cV)(a1 a2:Int)(l0_1:a0.1.length<=2^63-1)(l0_2_2_1:a0.2.2.1.length<=2^63-1)(l0_2_2_2:a0.2.2.2.length<=2^63-1)(hp:PADD a0 a1 a2):Con Tryz.prog 76 [(.p 0 0),(iv a1),(iv a2)] [(.live true false [(.s 1 0 a0.1.length 10),(iv a0.2.1),(.s 2 0 a0.2.2.1.length 1),(.s 3 0 a0.2.2.2.length 8)]),(.live false true (flat dI a0.1)),(.live true true (flat c3 a0.2.2.1)),(.live true true (flat cR a0.2.2.2))] (iv (F76 a0 a1 a2).1) [(.live true true (flat cR (F76 a0 a1 a2).2.2.2.2))] [(.live true false [(.s 1 0 a0.1.length 10),(iv (F76 a0 a1 a2).2.2.1),(.s 2 0 (F76 a0 a1 a2).2.2.2.1.length 1),(.s 4 0 (F76 a0 a1 a2).2.2.2.2.length 8)]),.un,(.live true true (flat c3 (F76 a0 a1 a2).2.2.2.1)),.dead]:=bE5 (tN (a2 - a1)+1) a0 a1 a2 l0_1 l0_2_2_1 l0_2_2_2 hp (lss _)
end Go.Proofs.YtlffahoikfahlaaGreat
