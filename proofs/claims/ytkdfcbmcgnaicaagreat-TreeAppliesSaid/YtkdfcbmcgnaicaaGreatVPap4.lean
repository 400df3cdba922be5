/-
  Parts of the proofs of the laws: the executor, what functions of the program compute, and that it is what the statements ask. No premise.
-/
import Derived.Test.YtkdfcbmcgnaicaaGreatVPap3
import Derived.Sort.AssemblyPlain
import Derived.Shelf.SlSortCmp.Xorshift
set_option linter.unusedVariables false
set_option linter.unusedSimpArgs false
set_option maxHeartbeats 4000000
open Int renaming toNat → tN
open Inhabited renaming default → dF
namespace Go.Proofs.YtkdfcbmcgnaicaaGreat
open Go.Proofs Go.Aw Go.RowKit
set_option maxRecDepth 100000
noncomputable def iU:Code:=(aM [1,1,0,1,0,1,0,1,1,1,1,1,1,0,1] [0] (aL Tryz.f114) []).1
noncomputable def iV (m0:Nat):List K:=(aM [1,1,0,1,0,1,0,1,1,1,1,1,1,0,1] [m0] (aL Tryz.f114) []).2
def iH (a0:List Int)(a0_o:Nat)(a0_n:Nat)(a1:Int)(a2:Int)(a3:eP×Int)(v11c:List SV)(v11n:Nat)(v12 v13 v14:Int):LS:=⟨gD 141 [(0,(.s 0 (0+a0_o*1) a0_n 1)),(1,(iv a1)),(2,(iv a2)),(3,(.f 1000075 [(.a [(.p 1 0),(iv a3.2)])])),(9,(iv v12)),(10,(iv v13)),(12,(iv v14))],[(.live true true v11c),(.live false false [(.s 2 0 a3.1.1.length 10),(iv a3.1.2.1),(.s 0 0 v11n 1),(.s 3 0 a3.1.2.2.2.length 8)]),(.live false true (flat dC a3.1.1)),(.live false true (flat cB a3.1.2.2.2))]⟩
def bZ (a0:List Int)(a0_o:Nat)(a0_n:Nat)(a1:Int)(a2:Int)(a3:eP×Int):List Int×Zt->(List Int×Zt)⊕((List Int×Int×Int)⊕(Bool×List Int))
 | (v11,v12,v13,v14) =>
  (bif (decide ((v14:Int) < a2)) then
   (bif (!(decide (((pL ((a3.1.1,a3.1.2.1,(v11,a3.1.2.2.2)),a3.2) (v11.getD (a0_o+tN v14) dF) (v11.getD (a0_o+tN (W (v14 - 1))) dF)):Int) < 0))) then
    (.inr (.inl (v11,v12,(v13+1))))
   else
    (.inl (((v11.set (a0_o+tN v14) (v11.getD (a0_o+tN (W (v14 - 1))) dF)).set (a0_o+tN (W (v14 - 1))) (v11.getD (a0_o+tN v14) dF)),v12,v13,(v14+1))))
  else
   (.inr (.inl (v11,v12,(v13+1)))))
noncomputable def mP:Code:=(aM [1,1,0,1,0,1,0,1,1,1,1,0,1,0,1] [0] (aL Tryz.f114) []).1
noncomputable def mQ (m0:Nat):List K:=(aM [1,1,0,1,0,1,0,1,1,1,1,0,1,0,1] [m0] (aL Tryz.f114) []).2
def lM (a0:List Int)(a0_o:Nat)(a0_n:Nat)(a1:Int)(a2:Int)(a3:eP×Int)(v7c:List SV)(v7n:Nat)(v8 v9 v10:Int):LS:=⟨gD 141 [(0,(.s 0 (0+a0_o*1) a0_n 1)),(1,(iv a1)),(2,(iv a2)),(3,(.f 1000075 [(.a [(.p 1 0),(iv a3.2)])])),(9,(iv v8)),(10,(iv v9)),(11,(iv v10))],[(.live true true v7c),(.live false false [(.s 2 0 a3.1.1.length 10),(iv a3.1.2.1),(.s 0 0 v7n 1),(.s 3 0 a3.1.2.2.2.length 8)]),(.live false true (flat dC a3.1.1)),(.live false true (flat cB a3.1.2.2.2))]⟩
def cA (a0:List Int)(a0_o:Nat)(a0_n:Nat)(a1:Int)(a2:Int)(a3:eP×Int):List Int×Zt->(List Int×Zt)⊕((List Int×Int×Int)⊕(Bool×List Int))
 | (v7,v8,v9,v10) =>
  (bif (decide ((v10:Int)≥1)) then
   (bif (!(decide (((pL ((a3.1.1,a3.1.2.1,(v7,a3.1.2.2.2)),a3.2) (v7.getD (a0_o+tN v10) dF) (v7.getD (a0_o+tN (W (v10 - 1))) dF)):Int) < 0))) then
    (bif (decide (((W (a2 - v8)):Int)≥2)) then
     (.inr (aH (bZ a0 a0_o a0_n a1 a2 a3) (tN (a2 - (v8+1))+1) (v7,v8,v9,(v8+1))))
    else
     (.inr (.inl (v7,v8,(v9+1)))))
   else
    (.inl (((v7.set (a0_o+tN v10) (v7.getD (a0_o+tN (W (v10 - 1))) dF)).set (a0_o+tN (W (v10 - 1))) (v7.getD (a0_o+tN v10) dF)),v8,v9,(W (v10 - 1)))))
  else
   (bif (decide (((W (a2 - v8)):Int)≥2)) then
    (.inr (aH (bZ a0 a0_o a0_n a1 a2 a3) (tN (a2 - (v8+1))+1) (v7,v8,v9,(v8+1))))
   else
    (.inr (.inl (v7,v8,(v9+1))))))
noncomputable def qQ:Code:=(aM [1,1,0,1,0,1,0,0] [0] (aL Tryz.f114) []).1
noncomputable def qR (m0:Nat):List K:=(aM [1,1,0,1,0,1,0,0] [m0] (aL Tryz.f114) []).2
def oQ (a0:List Int)(a0_o:Nat)(a0_n:Nat)(a1:Int)(a2:Int)(a3:eP×Int)(v4c:List SV)(v4n:Nat)(v5 v6:Int):LS:=⟨gD 141 [(0,(.s 0 (0+a0_o*1) a0_n 1)),(1,(iv a1)),(2,(iv a2)),(3,(.f 1000075 [(.a [(.p 1 0),(iv a3.2)])])),(9,(iv v5)),(10,(iv v6))],[(.live true true v4c),(.live false false [(.s 2 0 a3.1.1.length 10),(iv a3.1.2.1),(.s 0 0 v4n 1),(.s 3 0 a3.1.2.2.2.length 8)]),(.live false true (flat dC a3.1.1)),(.live false true (flat cB a3.1.2.2.2))]⟩
def bC (a0:List Int)(a0_o:Nat)(a0_n:Nat)(a1:Int)(a2:Int)(a3:eP×Int):List Int×Int×Int->(List Int×Int×Int)⊕((List Int×Int×Int)⊕(Bool×List Int))
 | (v4,v5,v6) =>
  (bif (decide ((v5:Int) < a2)) then
   (bif (!(decide (((pL ((a3.1.1,a3.1.2.1,(v4,a3.1.2.2.2)),a3.2) (v4.getD (a0_o+tN v5) dF) (v4.getD (a0_o+tN (W (v5 - 1))) dF)):Int) < 0))) then
    (.inl (v4,(v5+1),v6))
   else
    (bif ((v5:Int) == a2) then
     (.inr (.inr (true,v4)))
    else
     (bif (decide (((W (a2 - a1)):Int) < 50)) then
      (.inr (.inr (false,v4)))
     else
      (bif (decide (((W (v5 - a1)):Int)≥2)) then
       (.inr (aH (cA a0 a0_o a0_n a1 a2 a3) (tN (W (v5 - 1))+1) (((v4.set (a0_o+tN v5) (v4.getD (a0_o+tN (W (v5 - 1))) dF)).set (a0_o+tN (W (v5 - 1))) (v4.getD (a0_o+tN v5) dF)),v5,v6,(W (v5 - 1)))))
      else
       (bif (decide (((W (a2 - v5)):Int)≥2)) then
        (.inr (aH (bZ a0 a0_o a0_n a1 a2 a3) (tN (a2 - (v5+1))+1) (((v4.set (a0_o+tN v5) (v4.getD (a0_o+tN (W (v5 - 1))) dF)).set (a0_o+tN (W (v5 - 1))) (v4.getD (a0_o+tN v5) dF)),v5,v6,(v5+1))))
       else
        (.inr (.inl (((v4.set (a0_o+tN v5) (v4.getD (a0_o+tN (W (v5 - 1))) dF)).set (a0_o+tN (W (v5 - 1))) (v4.getD (a0_o+tN v5) dF)),v5,(v6+1)))))))))
  else
   (bif ((v5:Int) == a2) then
    (.inr (.inr (true,v4)))
   else
    (bif (decide (((W (a2 - a1)):Int) < 50)) then
     (.inr (.inr (false,v4)))
    else
     (bif (decide (((W (v5 - a1)):Int)≥2)) then
      (.inr (aH (cA a0 a0_o a0_n a1 a2 a3) (tN (W (v5 - 1))+1) (((v4.set (a0_o+tN v5) (v4.getD (a0_o+tN (W (v5 - 1))) dF)).set (a0_o+tN (W (v5 - 1))) (v4.getD (a0_o+tN v5) dF)),v5,v6,(W (v5 - 1)))))
     else
      (bif (decide (((W (a2 - v5)):Int)≥2)) then
       (.inr (aH (bZ a0 a0_o a0_n a1 a2 a3) (tN (a2 - (v5+1))+1) (((v4.set (a0_o+tN v5) (v4.getD (a0_o+tN (W (v5 - 1))) dF)).set (a0_o+tN (W (v5 - 1))) (v4.getD (a0_o+tN v5) dF)),v5,v6,(v5+1))))
      else
       (.inr (.inl (((v4.set (a0_o+tN v5) (v4.getD (a0_o+tN (W (v5 - 1))) dF)).set (a0_o+tN (W (v5 - 1))) (v4.getD (a0_o+tN v5) dF)),v5,(v6+1)))))))))
noncomputable def eQ:Code:=(aM [1,1,0,1] [] (aL Tryz.f114) []).1
noncomputable def eR:List K:=(aM [1,1,0,1] [] (aL Tryz.f114) []).2
def dX (a0:List Int)(a0_o:Nat)(a0_n:Nat)(a1:Int)(a2:Int)(a3:eP×Int)(v1c:List SV)(v1n:Nat)(v2 v3:Int):LS:=⟨gD 141 [(0,(.s 0 (0+a0_o*1) a0_n 1)),(1,(iv a1)),(2,(iv a2)),(3,(.f 1000075 [(.a [(.p 1 0),(iv a3.2)])])),(9,(iv v2)),(10,(iv v3))],[(.live true true v1c),(.live false false [(.s 2 0 a3.1.1.length 10),(iv a3.1.2.1),(.s 0 0 v1n 1),(.s 3 0 a3.1.2.2.2.length 8)]),(.live false true (flat dC a3.1.1)),(.live false true (flat cB a3.1.2.2.2))]⟩
def bN (a0:List Int)(a0_o:Nat)(a0_n:Nat)(a1:Int)(a2:Int)(a3:eP×Int):List Int×Int×Int->(List Int×Int×Int)⊕(Bool×List Int)
 | (v1,v2,v3) =>
  (bif (decide ((v3:Int) < 5)) then
   (aH (bC a0 a0_o a0_n a1 a2 a3) (tN (a2 - v2)+1) (v1,v2,v3))
  else
   (.inr (false,v1)))
theorem mR (a0:List Int)(a0_o:Nat)(a0_n:Nat)(a1:Int)(a2:Int)(a3:eP×Int)(l0:a0.length<=2^63-1)(l3_1_1:a3.1.1.length<=2^63-1)(l3_1_2_2_1:a3.1.2.2.1.length<=2^63-1)(l3_1_2_2_2:a3.1.2.2.2.length<=2^63-1)(hw:a0_o+a0_n<=a0.length/\a0.length<=1048576)(hr:InR a3.1.1.length a0)(hab:0<=a1/\a1 < a2/\a2<=↑a0_n) {cx:Cx} (hcx:cx.base=4)
 (n0:Nat) (g0:∀(v1:List Int) (v2 v3:Int),(v1.length=a0.length)/\(InR a3.1.1.length v1)/\(a1 < v2)/\(v2<=a2)/\(0<=v3)/\(v3<=5)->tN (5 - v3) < n0->Aw.Good Tryz.prog none 9 (bodyPost Tryz.prog Tryz.f114 (RR cx (.v (.bool (aH (bN a0 a0_o a0_n a1 a2 a3) n0 (v1,v2,v3)).1)) [] [(.live true true (flat c3 (aH (bN a0 a0_o a0_n a1 a2 a3) n0 (v1,v2,v3)).2)),.un,.un,.un])) cx [] (.l eQ n0::eR) (dX a0 a0_o a0_n a1 a2 a3 (flat c3 v1) v1.length v2 v3)):∀(n:Nat) (v11:List Int) (v12 v13 v14:Int),(v11.length=a0.length)/\(InR a3.1.1.length v11)/\(a1 < v12)/\(v12 < a2)/\(0<=v13)/\(v13 < 5)/\(a1 < v14)/\(v14<=a2)/\((v11.length=a0.length))/\((InR a3.1.1.length v11))/\((a1 < v12))/\((v12<=a2))/\((0<=v13))/\((v13<=5))/\(tN (5 - v13) < n0+1)->tN (a2 - v14) < n->Aw.Good Tryz.prog none 9 (bodyPost Tryz.prog Tryz.f114 (RR cx (.v (.bool (bA (bN a0 a0_o a0_n a1 a2 a3) n0 (aH (bZ a0 a0_o a0_n a1 a2 a3) n (v11,v12,v13,v14))).1)) [] [(.live true true (flat c3 (bA (bN a0 a0_o a0_n a1 a2 a3) n0 (aH (bZ a0 a0_o a0_n a1 a2 a3) n (v11,v12,v13,v14))).2)),.un,.un,.un])) cx [] (.l iU n::iV n0) (iH a0 a0_o a0_n a1 a2 a3 (flat c3 v11) v11.length v12 v13 v14):=by
 intro n
 induction n with
 | zero=>intro v11 v12 v13 v14 hi hn;exact absurd hn (eI _)
 | succ n ih =>
  intro v11 v12 v13 v14 hi hn
  refine aR ?_
  have hw_0:W (v12 - 1)=v12 - 1:=(aS (n:=v12 - 1) (by omega) (by omega)).trans (by omega)
  have hw_1:W (v12+1)=v12+1:=(aS (n:=v12+1) (by omega) (by omega)).trans (by omega)
  have hw_2:W (v13+1)=v13+1:=(aS (n:=v13+1) (by omega) (by omega)).trans (by omega)
  have hw_3:W (a2 - a1)=a2 - a1:=(aS (n:=a2 - a1) (by omega) (by omega)).trans (by omega)
  have hw_4:W (v12 - a1)=v12 - a1:=(aS (n:=v12 - a1) (by omega) (by omega)).trans (by omega)
  have hw_5:W (a2 - v12)=a2 - v12:=(aS (n:=a2 - v12) (by omega) (by omega)).trans (by omega)
  have hw_6:W (v14 - 1)=v14 - 1:=(aS (n:=v14 - 1) (by omega) (by omega)).trans (by omega)
  have hw_7:W (v14+1)=v14+1:=(aS (n:=v14+1) (by omega) (by omega)).trans (by omega)
  cases h0:(decide ((v14:Int) < a2)) with
  | true =>
   have q0:=cJ h0
   let t1:List (St Tryz.prog):=[.d h0,.i v14 a0_n,cQ aF v11 a0_o v14 0 1,.i (W (v14 - 1)) a0_n,cQ aF v11 a0_o (W (v14 - 1)) 0 1,.c [1,2,0,3] (C75 ((a3.1.1,a3.1.2.1,(v11,a3.1.2.2.2)),a3.2) (v11.getD (a0_o+tN v14) dF) (v11.getD (a0_o+tN (W (v14 - 1))) dF) (by omega) (by(try simp only [Lt]);omega) (by omega) (hi.2.1.at (by omega)) (hi.2.1.at (by omega)))]
   cases h1:(!(decide (((pL ((a3.1.1,a3.1.2.1,(v11,a3.1.2.2.2)),a3.2) (v11.getD (a0_o+tN v14) dF) (v11.getD (a0_o+tN (W (v14 - 1))) dF)):Int) < 0))) with
   | true =>
    have e:=Eq.refl (bZ a0 a0_o a0_n a1 a2 a3 (v11,v12,v13,v14));conv at e=>rhs;simp only [bZ,h0,h1,aT]
    rw [aJ,e]
    refine ba (t1++[.d h1]) [] [0,1,2,3,9,10] [] hcx (m:=n0) eQ (eR) (dX a0 a0_o a0_n a1 a2 a3 (flat c3 v11) (v11.length) v12 (W (v13+1))) (by kernel_rfl) ?_
    have z0:(W (v13+1))=(v13+1):=aS (by omega) (by omega)
    rw [z0]
    exact g0 v11 v12 (v13+1) (by and_intros<;>(try simp only [Lt])<;>first | omega | assumption | exact hi.2.1 | exact hi.2.2.1 | exact InR.swap hi.2.1 (by omega) (by omega) | exact InR.swap hr (by omega) (by omega)) (by omega)
   | false =>
    have e:=Eq.refl (bZ a0 a0_o a0_n a1 a2 a3 (v11,v12,v13,v14));conv at e=>rhs;simp only [bZ,h0,h1,aT]
    rw [aI e]
    refine ba (t1++[.d h1,.i (W (v14 - 1)) a0_n,cQ aF v11 a0_o (W (v14 - 1)) 0 1,.i v14 a0_n,cQ aF v11 a0_o v14 0 1,.i v14 a0_n,.p (show((0+a0_o*1+tN v14*1)+1<=(flat c3 v11).length) from(aX aF (by first | omega | (simp only [Lt];omega)) (o:=0) (Nb rfl))),.i (W (v14 - 1)) a0_n,.p (show((0+a0_o*1+tN (W (v14 - 1))*1)+1<=(splice (flat c3 v11) (0+a0_o*1+tN v14*1) [(iv (v11.getD (a0_o+tN (W (v14 - 1))) dF))]).length) from(by rw [show(splice (flat c3 v11) (0+a0_o*1+tN v14*1) [(iv (v11.getD (a0_o+tN (W (v14 - 1))) dF))])=flat c3 (v11.set (a0_o+tN v14) (v11.getD (a0_o+tN (W (v14 - 1))) dF)) from(aP aF (by first | omega | (simp only [Lt];omega)) (o:=0) (d:=dF) (Nb rfl) rfl)];exact aX aF (by first | omega | (simp only [Lt];omega)) (o:=0) (Nb rfl)))]) [] [0,1,2,3,9,10,12] [] hcx (m:=n) iU (iV n0) (iH a0 a0_o a0_n a1 a2 a3 (splice (splice (flat c3 v11) (0+a0_o*1+tN v14*1) [(iv (v11.getD (a0_o+tN (W (v14 - 1))) dF))]) (0+a0_o*1+tN (W (v14 - 1))*1) [(iv (v11.getD (a0_o+tN v14) dF))]) (v11.length) v12 v13 (W (v14+1))) (by kernel_rfl) ?_
    have z0:(W (v14+1))=(v14+1):=aS (by omega) (by omega)
    have z1:(splice (splice (flat c3 v11) (0+a0_o*1+tN v14*1) [(iv (v11.getD (a0_o+tN (W (v14 - 1))) dF))]) (0+a0_o*1+tN (W (v14 - 1))*1) [(iv (v11.getD (a0_o+tN v14) dF))])=flat c3 ((v11.set (a0_o+tN v14) (v11.getD (a0_o+tN (W (v14 - 1))) dF)).set (a0_o+tN (W (v14 - 1))) (v11.getD (a0_o+tN v14) dF)):=(by rw [show(splice (flat c3 v11) (0+a0_o*1+tN v14*1) [(iv (v11.getD (a0_o+tN (W (v14 - 1))) dF))])=flat c3 (v11.set (a0_o+tN v14) (v11.getD (a0_o+tN (W (v14 - 1))) dF)) from(aP aF (by first | omega | (simp only [Lt];omega)) (o:=0) (d:=dF) (Nb rfl) rfl)];exact aP aF (by first | omega | (simp only [Lt];omega)) (o:=0) (d:=dF) (Nb rfl) rfl)
    have z2:v11.length=((v11.set (a0_o+tN v14) (v11.getD (a0_o+tN (W (v14 - 1))) dF)).set (a0_o+tN (W (v14 - 1))) (v11.getD (a0_o+tN v14) dF)).length:=by simp
    rw [z0,z1,z2]
    exact ih ((v11.set (a0_o+tN v14) (v11.getD (a0_o+tN (W (v14 - 1))) dF)).set (a0_o+tN (W (v14 - 1))) (v11.getD (a0_o+tN v14) dF)) v12 v13 (v14+1) (by and_intros<;>(try simp only [Lt])<;>first | omega | assumption | exact hi.2.1 | exact hi.2.2.1 | exact InR.swap hi.2.1 (by omega) (by omega) | exact InR.swap hr (by omega) (by omega)) (by omega)
  | false =>
   have q0:=cN h0
   have e:=Eq.refl (bZ a0 a0_o a0_n a1 a2 a3 (v11,v12,v13,v14));conv at e=>rhs;simp only [bZ,h0,aT]
   rw [aJ,e]
   refine ba [.d h0] [] [0,1,2,3,9,10] [] hcx (m:=n0) eQ (eR) (dX a0 a0_o a0_n a1 a2 a3 (flat c3 v11) (v11.length) v12 (W (v13+1))) (by kernel_rfl) ?_
   have z0:(W (v13+1))=(v13+1):=aS (by omega) (by omega)
   rw [z0]
   exact g0 v11 v12 (v13+1) (by and_intros<;>(try simp only [Lt])<;>first | omega | assumption | exact hi.2.1 | exact hi.2.2.1 | exact InR.swap hi.2.1 (by omega) (by omega) | exact InR.swap hr (by omega) (by omega)) (by omega)
theorem vW (a0:List Int)(a0_o:Nat)(a0_n:Nat)(a1:Int)(a2:Int)(a3:eP×Int)(l0:a0.length<=2^63-1)(l3_1_1:a3.1.1.length<=2^63-1)(l3_1_2_2_1:a3.1.2.2.1.length<=2^63-1)(l3_1_2_2_2:a3.1.2.2.2.length<=2^63-1)(hw:a0_o+a0_n<=a0.length/\a0.length<=1048576)(hr:InR a3.1.1.length a0)(hab:0<=a1/\a1 < a2/\a2<=↑a0_n) {cx:Cx} (hcx:cx.base=4)
 (n0:Nat) (g0:∀(v1:List Int) (v2 v3:Int),(v1.length=a0.length)/\(InR a3.1.1.length v1)/\(a1 < v2)/\(v2<=a2)/\(0<=v3)/\(v3<=5)->tN (5 - v3) < n0->Aw.Good Tryz.prog none 9 (bodyPost Tryz.prog Tryz.f114 (RR cx (.v (.bool (aH (bN a0 a0_o a0_n a1 a2 a3) n0 (v1,v2,v3)).1)) [] [(.live true true (flat c3 (aH (bN a0 a0_o a0_n a1 a2 a3) n0 (v1,v2,v3)).2)),.un,.un,.un])) cx [] (.l eQ n0::eR) (dX a0 a0_o a0_n a1 a2 a3 (flat c3 v1) v1.length v2 v3)):∀(n:Nat) (v7:List Int) (v8 v9 v10:Int),(v7.length=a0.length)/\(InR a3.1.1.length v7)/\(a1 < v8)/\(v8 < a2)/\(0<=v9)/\(v9 < 5)/\(0<=v10)/\(v10 < v8)/\((v7.length=a0.length))/\((InR a3.1.1.length v7))/\((a1 < v8))/\((v8<=a2))/\((0<=v9))/\((v9<=5))/\(tN (5 - v9) < n0+1)->tN v10 < n->Aw.Good Tryz.prog none 9 (bodyPost Tryz.prog Tryz.f114 (RR cx (.v (.bool (bA (bN a0 a0_o a0_n a1 a2 a3) n0 (aH (cA a0 a0_o a0_n a1 a2 a3) n (v7,v8,v9,v10))).1)) [] [(.live true true (flat c3 (bA (bN a0 a0_o a0_n a1 a2 a3) n0 (aH (cA a0 a0_o a0_n a1 a2 a3) n (v7,v8,v9,v10))).2)),.un,.un,.un])) cx [] (.l mP n::mQ n0) (lM a0 a0_o a0_n a1 a2 a3 (flat c3 v7) v7.length v8 v9 v10):=by
 intro n
 induction n with
 | zero=>intro v7 v8 v9 v10 hi hn;exact absurd hn (eI _)
 | succ n ih =>
  intro v7 v8 v9 v10 hi hn
  refine aR ?_
  have hw_0:W (v8 - 1)=v8 - 1:=(aS (n:=v8 - 1) (by omega) (by omega)).trans (by omega)
  have hw_1:W (v8+1)=v8+1:=(aS (n:=v8+1) (by omega) (by omega)).trans (by omega)
  have hw_2:W (v9+1)=v9+1:=(aS (n:=v9+1) (by omega) (by omega)).trans (by omega)
  have hw_3:W (a2 - a1)=a2 - a1:=(aS (n:=a2 - a1) (by omega) (by omega)).trans (by omega)
  have hw_4:W (v8 - a1)=v8 - a1:=(aS (n:=v8 - a1) (by omega) (by omega)).trans (by omega)
  have hw_5:W (a2 - v8)=a2 - v8:=(aS (n:=a2 - v8) (by omega) (by omega)).trans (by omega)
  have hw_6:W (v10 - 1)=v10 - 1:=(aS (n:=v10 - 1) (by omega) (by omega)).trans (by omega)
  cases h0:(decide ((v10:Int)≥1)) with
  | true =>
   have q0:=cJ h0
   let t1:List (St Tryz.prog):=[.d h0,.i v10 a0_n,cQ aF v7 a0_o v10 0 1,.i (W (v10 - 1)) a0_n,cQ aF v7 a0_o (W (v10 - 1)) 0 1,.c [1,2,0,3] (C75 ((a3.1.1,a3.1.2.1,(v7,a3.1.2.2.2)),a3.2) (v7.getD (a0_o+tN v10) dF) (v7.getD (a0_o+tN (W (v10 - 1))) dF) (by omega) (by(try simp only [Lt]);omega) (by omega) (hi.2.1.at (by omega)) (hi.2.1.at (by omega)))]
   cases h1:(!(decide (((pL ((a3.1.1,a3.1.2.1,(v7,a3.1.2.2.2)),a3.2) (v7.getD (a0_o+tN v10) dF) (v7.getD (a0_o+tN (W (v10 - 1))) dF)):Int) < 0))) with
   | true =>
    let t2:List (St Tryz.prog):=(t1++[.d h1])
    cases h2:(decide (((W (a2 - v8)):Int)≥2)) with
    | true =>
     have q2:=cJ h2
     have e:=Eq.refl (cA a0 a0_o a0_n a1 a2 a3 (v7,v8,v9,v10));conv at e=>rhs;simp only [cA,h0,h1,h2,aT]
     rw [aJ,e]
     refine en (t2++[.d h2]) [] [0,1,2,3,9,10,12] [] hcx iU (iV n0) (iH a0 a0_o a0_n a1 a2 a3 (flat c3 v7) (v7.length) v8 v9 (W (v8+1))) (tN (a2 - (v8+1))+1) (by kernel_rfl) ?_
     have z0:(W (v8+1))=(v8+1):=aS (by omega) (by omega)
     rw [z0]
     exact mR a0 a0_o a0_n a1 a2 a3 l0 l3_1_1 l3_1_2_2_1 l3_1_2_2_2 hw hr hab hcx n0 g0 (tN (a2 - (v8+1))+1) v7 v8 v9 (v8+1) (by and_intros<;>(try simp only [Lt])<;>first | omega | assumption | exact hi.2.1 | exact hi.2.2.1 | exact InR.swap hi.2.1 (by omega) (by omega) | exact InR.swap hr (by omega) (by omega)) (by omega)
    | false =>
     have q2:=cN h2
     have e:=Eq.refl (cA a0 a0_o a0_n a1 a2 a3 (v7,v8,v9,v10));conv at e=>rhs;simp only [cA,h0,h1,h2,aT]
     rw [aJ,e]
     refine ba (t2++[.d h2]) [] [0,1,2,3,9,10] [] hcx (m:=n0) eQ (eR) (dX a0 a0_o a0_n a1 a2 a3 (flat c3 v7) (v7.length) v8 (W (v9+1))) (by kernel_rfl) ?_
     have z0:(W (v9+1))=(v9+1):=aS (by omega) (by omega)
     rw [z0]
     exact g0 v7 v8 (v9+1) (by and_intros<;>(try simp only [Lt])<;>first | omega | assumption | exact hi.2.1 | exact hi.2.2.1 | exact InR.swap hi.2.1 (by omega) (by omega) | exact InR.swap hr (by omega) (by omega)) (by omega)
   | false =>
    have e:=Eq.refl (cA a0 a0_o a0_n a1 a2 a3 (v7,v8,v9,v10));conv at e=>rhs;simp only [cA,h0,h1,aT]
    rw [aI e]
    refine ba (t1++[.d h1,.i (W (v10 - 1)) a0_n,cQ aF v7 a0_o (W (v10 - 1)) 0 1,.i v10 a0_n,cQ aF v7 a0_o v10 0 1,.i v10 a0_n,.p (show((0+a0_o*1+tN v10*1)+1<=(flat c3 v7).length) from(aX aF (by first | omega | (simp only [Lt];omega)) (o:=0) (Nb rfl))),.i (W (v10 - 1)) a0_n,.p (show((0+a0_o*1+tN (W (v10 - 1))*1)+1<=(splice (flat c3 v7) (0+a0_o*1+tN v10*1) [(iv (v7.getD (a0_o+tN (W (v10 - 1))) dF))]).length) from(by rw [show(splice (flat c3 v7) (0+a0_o*1+tN v10*1) [(iv (v7.getD (a0_o+tN (W (v10 - 1))) dF))])=flat c3 (v7.set (a0_o+tN v10) (v7.getD (a0_o+tN (W (v10 - 1))) dF)) from(aP aF (by first | omega | (simp only [Lt];omega)) (o:=0) (d:=dF) (Nb rfl) rfl)];exact aX aF (by first | omega | (simp only [Lt];omega)) (o:=0) (Nb rfl)))]) [] [0,1,2,3,9,10,11] [] hcx (m:=n) mP (mQ n0) (lM a0 a0_o a0_n a1 a2 a3 (splice (splice (flat c3 v7) (0+a0_o*1+tN v10*1) [(iv (v7.getD (a0_o+tN (W (v10 - 1))) dF))]) (0+a0_o*1+tN (W (v10 - 1))*1) [(iv (v7.getD (a0_o+tN v10) dF))]) (v7.length) v8 v9 (W (v10 - 1))) (by kernel_rfl) ?_
    have z0:(splice (splice (flat c3 v7) (0+a0_o*1+tN v10*1) [(iv (v7.getD (a0_o+tN (W (v10 - 1))) dF))]) (0+a0_o*1+tN (W (v10 - 1))*1) [(iv (v7.getD (a0_o+tN v10) dF))])=flat c3 ((v7.set (a0_o+tN v10) (v7.getD (a0_o+tN (W (v10 - 1))) dF)).set (a0_o+tN (W (v10 - 1))) (v7.getD (a0_o+tN v10) dF)):=(by rw [show(splice (flat c3 v7) (0+a0_o*1+tN v10*1) [(iv (v7.getD (a0_o+tN (W (v10 - 1))) dF))])=flat c3 (v7.set (a0_o+tN v10) (v7.getD (a0_o+tN (W (v10 - 1))) dF)) from(aP aF (by first | omega | (simp only [Lt];omega)) (o:=0) (d:=dF) (Nb rfl) rfl)];exact aP aF (by first | omega | (simp only [Lt];omega)) (o:=0) (d:=dF) (Nb rfl) rfl)
    have z1:v7.length=((v7.set (a0_o+tN v10) (v7.getD (a0_o+tN (W (v10 - 1))) dF)).set (a0_o+tN (W (v10 - 1))) (v7.getD (a0_o+tN v10) dF)).length:=by simp
    rw [z0,z1]
    exact ih ((v7.set (a0_o+tN v10) (v7.getD (a0_o+tN (W (v10 - 1))) dF)).set (a0_o+tN (W (v10 - 1))) (v7.getD (a0_o+tN v10) dF)) v8 v9 (W (v10 - 1)) (by and_intros<;>(try simp only [Lt])<;>first | omega | assumption | exact hi.2.1 | exact hi.2.2.1 | exact InR.swap hi.2.1 (by omega) (by omega) | exact InR.swap hr (by omega) (by omega)) (by omega)
  | false =>
   have q0:=cN h0
   let t1:List (St Tryz.prog):=[.d h0]
   cases h1:(decide (((W (a2 - v8)):Int)≥2)) with
   | true =>
    have q1:=cJ h1
    have e:=Eq.refl (cA a0 a0_o a0_n a1 a2 a3 (v7,v8,v9,v10));conv at e=>rhs;simp only [cA,h0,h1,aT]
    rw [aJ,e]
    refine en (t1++[.d h1]) [] [0,1,2,3,9,10,12] [] hcx iU (iV n0) (iH a0 a0_o a0_n a1 a2 a3 (flat c3 v7) (v7.length) v8 v9 (W (v8+1))) (tN (a2 - (v8+1))+1) (by kernel_rfl) ?_
    have z0:(W (v8+1))=(v8+1):=aS (by omega) (by omega)
    rw [z0]
    exact mR a0 a0_o a0_n a1 a2 a3 l0 l3_1_1 l3_1_2_2_1 l3_1_2_2_2 hw hr hab hcx n0 g0 (tN (a2 - (v8+1))+1) v7 v8 v9 (v8+1) (by and_intros<;>(try simp only [Lt])<;>first | omega | assumption | exact hi.2.1 | exact hi.2.2.1 | exact InR.swap hi.2.1 (by omega) (by omega) | exact InR.swap hr (by omega) (by omega)) (by omega)
   | false =>
    have q1:=cN h1
    have e:=Eq.refl (cA a0 a0_o a0_n a1 a2 a3 (v7,v8,v9,v10));conv at e=>rhs;simp only [cA,h0,h1,aT]
    rw [aJ,e]
    refine ba (t1++[.d h1]) [] [0,1,2,3,9,10] [] hcx (m:=n0) eQ (eR) (dX a0 a0_o a0_n a1 a2 a3 (flat c3 v7) (v7.length) v8 (W (v9+1))) (by kernel_rfl) ?_
    have z0:(W (v9+1))=(v9+1):=aS (by omega) (by omega)
    rw [z0]
    exact g0 v7 v8 (v9+1) (by and_intros<;>(try simp only [Lt])<;>first | omega | assumption | exact hi.2.1 | exact hi.2.2.1 | exact InR.swap hi.2.1 (by omega) (by omega) | exact InR.swap hr (by omega) (by omega)) (by omega)
theorem aEv (a0:List Int)(a0_o:Nat)(a0_n:Nat)(a1:Int)(a2:Int)(a3:eP×Int)(l0:a0.length<=2^63-1)(l3_1_1:a3.1.1.length<=2^63-1)(l3_1_2_2_1:a3.1.2.2.1.length<=2^63-1)(l3_1_2_2_2:a3.1.2.2.2.length<=2^63-1)(hw:a0_o+a0_n<=a0.length/\a0.length<=1048576)(hr:InR a3.1.1.length a0)(hab:0<=a1/\a1 < a2/\a2<=↑a0_n) {cx:Cx} (hcx:cx.base=4)
 (n0:Nat) (g0:∀(v1:List Int) (v2 v3:Int),(v1.length=a0.length)/\(InR a3.1.1.length v1)/\(a1 < v2)/\(v2<=a2)/\(0<=v3)/\(v3<=5)->tN (5 - v3) < n0->Aw.Good Tryz.prog none 9 (bodyPost Tryz.prog Tryz.f114 (RR cx (.v (.bool (aH (bN a0 a0_o a0_n a1 a2 a3) n0 (v1,v2,v3)).1)) [] [(.live true true (flat c3 (aH (bN a0 a0_o a0_n a1 a2 a3) n0 (v1,v2,v3)).2)),.un,.un,.un])) cx [] (.l eQ n0::eR) (dX a0 a0_o a0_n a1 a2 a3 (flat c3 v1) v1.length v2 v3)):∀(n:Nat) (v4:List Int) (v5 v6:Int),(v4.length=a0.length)/\(InR a3.1.1.length v4)/\(a1 < v5)/\(v5<=a2)/\(0<=v6)/\(v6 < 5)/\((v4.length=a0.length))/\((InR a3.1.1.length v4))/\((a1 < v5))/\((v5<=a2))/\((0<=v6))/\((v6<=5))/\(tN (5 - v6) < n0+1)->tN (a2 - v5) < n->Aw.Good Tryz.prog none 9 (bodyPost Tryz.prog Tryz.f114 (RR cx (.v (.bool (bA (bN a0 a0_o a0_n a1 a2 a3) n0 (aH (bC a0 a0_o a0_n a1 a2 a3) n (v4,v5,v6))).1)) [] [(.live true true (flat c3 (bA (bN a0 a0_o a0_n a1 a2 a3) n0 (aH (bC a0 a0_o a0_n a1 a2 a3) n (v4,v5,v6))).2)),.un,.un,.un])) cx [] (.l qQ n::qR n0) (oQ a0 a0_o a0_n a1 a2 a3 (flat c3 v4) v4.length v5 v6):=by
 intro n
 induction n with
 | zero=>intro v4 v5 v6 hi hn;exact absurd hn (eI _)
 | succ n ih =>
  intro v4 v5 v6 hi hn
  refine aR ?_
  have hw_0:W (v5 - 1)=v5 - 1:=(aS (n:=v5 - 1) (by omega) (by omega)).trans (by omega)
  have hw_1:W (v5+1)=v5+1:=(aS (n:=v5+1) (by omega) (by omega)).trans (by omega)
  have hw_2:W (v6+1)=v6+1:=(aS (n:=v6+1) (by omega) (by omega)).trans (by omega)
  have hw_3:W (a2 - a1)=a2 - a1:=(aS (n:=a2 - a1) (by omega) (by omega)).trans (by omega)
  have hw_4:W (v5 - a1)=v5 - a1:=(aS (n:=v5 - a1) (by omega) (by omega)).trans (by omega)
  have hw_5:W (a2 - v5)=a2 - v5:=(aS (n:=a2 - v5) (by omega) (by omega)).trans (by omega)
  cases h0:(decide ((v5:Int) < a2)) with
  | true =>
   have q0:=cJ h0
   let t1:List (St Tryz.prog):=[.d h0,.i v5 a0_n,cQ aF v4 a0_o v5 0 1,.i (W (v5 - 1)) a0_n,cQ aF v4 a0_o (W (v5 - 1)) 0 1,.c [1,2,0,3] (C75 ((a3.1.1,a3.1.2.1,(v4,a3.1.2.2.2)),a3.2) (v4.getD (a0_o+tN v5) dF) (v4.getD (a0_o+tN (W (v5 - 1))) dF) (by omega) (by(try simp only [Lt]);omega) (by omega) (hi.2.1.at (by omega)) (hi.2.1.at (by omega)))]
   cases h1:(!(decide (((pL ((a3.1.1,a3.1.2.1,(v4,a3.1.2.2.2)),a3.2) (v4.getD (a0_o+tN v5) dF) (v4.getD (a0_o+tN (W (v5 - 1))) dF)):Int) < 0))) with
   | true =>
    have e:=Eq.refl (bC a0 a0_o a0_n a1 a2 a3 (v4,v5,v6));conv at e=>rhs;simp only [bC,h0,h1,aT]
    rw [aI e]
    refine ba (t1++[.d h1]) [] [0,1,2,3,9,10] [] hcx (m:=n) qQ (qR n0) (oQ a0 a0_o a0_n a1 a2 a3 (flat c3 v4) (v4.length) (W (v5+1)) v6) (by kernel_rfl) ?_
    have z0:(W (v5+1))=(v5+1):=aS (by omega) (by omega)
    rw [z0]
    exact ih v4 (v5+1) v6 (by and_intros<;>(try simp only [Lt])<;>first | omega | assumption | exact hi.2.1 | exact hi.2.2.1 | exact InR.swap hi.2.1 (by omega) (by omega) | exact InR.swap hr (by omega) (by omega)) (by omega)
   | false =>
    let t2:List (St Tryz.prog):=(t1++[.d h1])
    cases h2:((v5:Int) == a2) with
    | true =>
     have q2:=eq_of_beq h2
     have e:=Eq.refl (bC a0 a0_o a0_n a1 a2 a3 (v4,v5,v6));conv at e=>rhs;simp only [bC,h0,h1,h2,aT]
     rw [aJ,e]
     try dsimp only [bA]
     try dsimp only
     exact wW (t2++[.d h2]) [] [0] [] hcx (by kernel_rfl)
    | false =>
     have q2:=ne_of_beq_false h2
     let t3:List (St Tryz.prog):=(t2++[.d h2])
     cases h3:(decide (((W (a2 - a1)):Int) < 50)) with
     | true =>
      have q3:=cJ h3
      have e:=Eq.refl (bC a0 a0_o a0_n a1 a2 a3 (v4,v5,v6));conv at e=>rhs;simp only [bC,h0,h1,h2,h3,aT]
      rw [aJ,e]
      try dsimp only [bA]
      try dsimp only
      exact wW (t3++[.d h3]) [] [0] [] hcx (by kernel_rfl)
     | false =>
      have q3:=cN h3
      let t4:List (St Tryz.prog):=(t3++[.d h3,.i (W (v5 - 1)) a0_n,cQ aF v4 a0_o (W (v5 - 1)) 0 1,.i v5 a0_n,cQ aF v4 a0_o v5 0 1,.i v5 a0_n,.p (show((0+a0_o*1+tN v5*1)+1<=(flat c3 v4).length) from(aX aF (by first | omega | (simp only [Lt];omega)) (o:=0) (Nb rfl))),.i (W (v5 - 1)) a0_n,.p (show((0+a0_o*1+tN (W (v5 - 1))*1)+1<=(splice (flat c3 v4) (0+a0_o*1+tN v5*1) [(iv (v4.getD (a0_o+tN (W (v5 - 1))) dF))]).length) from(by rw [show(splice (flat c3 v4) (0+a0_o*1+tN v5*1) [(iv (v4.getD (a0_o+tN (W (v5 - 1))) dF))])=flat c3 (v4.set (a0_o+tN v5) (v4.getD (a0_o+tN (W (v5 - 1))) dF)) from(aP aF (by first | omega | (simp only [Lt];omega)) (o:=0) (d:=dF) (Nb rfl) rfl)];exact aX aF (by first | omega | (simp only [Lt];omega)) (o:=0) (Nb rfl)))])
      cases h4:(decide (((W (v5 - a1)):Int)≥2)) with
      | true =>
       have q4:=cJ h4
       have e:=Eq.refl (bC a0 a0_o a0_n a1 a2 a3 (v4,v5,v6));conv at e=>rhs;simp only [bC,h0,h1,h2,h3,h4,aT]
       rw [aJ,e]
       refine en (t4++[.d h4]) [] [0,1,2,3,9,10,11] [] hcx mP (mQ n0) (lM a0 a0_o a0_n a1 a2 a3 (splice (splice (flat c3 v4) (0+a0_o*1+tN v5*1) [(iv (v4.getD (a0_o+tN (W (v5 - 1))) dF))]) (0+a0_o*1+tN (W (v5 - 1))*1) [(iv (v4.getD (a0_o+tN v5) dF))]) (v4.length) v5 v6 (W (v5 - 1))) (tN (W (v5 - 1))+1) (by kernel_rfl) ?_
       have z0:(splice (splice (flat c3 v4) (0+a0_o*1+tN v5*1) [(iv (v4.getD (a0_o+tN (W (v5 - 1))) dF))]) (0+a0_o*1+tN (W (v5 - 1))*1) [(iv (v4.getD (a0_o+tN v5) dF))])=flat c3 ((v4.set (a0_o+tN v5) (v4.getD (a0_o+tN (W (v5 - 1))) dF)).set (a0_o+tN (W (v5 - 1))) (v4.getD (a0_o+tN v5) dF)):=(by rw [show(splice (flat c3 v4) (0+a0_o*1+tN v5*1) [(iv (v4.getD (a0_o+tN (W (v5 - 1))) dF))])=flat c3 (v4.set (a0_o+tN v5) (v4.getD (a0_o+tN (W (v5 - 1))) dF)) from(aP aF (by first | omega | (simp only [Lt];omega)) (o:=0) (d:=dF) (Nb rfl) rfl)];exact aP aF (by first | omega | (simp only [Lt];omega)) (o:=0) (d:=dF) (Nb rfl) rfl)
       have z1:v4.length=((v4.set (a0_o+tN v5) (v4.getD (a0_o+tN (W (v5 - 1))) dF)).set (a0_o+tN (W (v5 - 1))) (v4.getD (a0_o+tN v5) dF)).length:=by simp
       rw [z0,z1]
       exact vW a0 a0_o a0_n a1 a2 a3 l0 l3_1_1 l3_1_2_2_1 l3_1_2_2_2 hw hr hab hcx n0 g0 (tN (W (v5 - 1))+1) ((v4.set (a0_o+tN v5) (v4.getD (a0_o+tN (W (v5 - 1))) dF)).set (a0_o+tN (W (v5 - 1))) (v4.getD (a0_o+tN v5) dF)) v5 v6 (W (v5 - 1)) (by and_intros<;>(try simp only [Lt])<;>first | omega | assumption | exact hi.2.1 | exact hi.2.2.1 | exact InR.swap hi.2.1 (by omega) (by omega) | exact InR.swap hr (by omega) (by omega)) (by omega)
      | false =>
       have q4:=cN h4
       let t5:List (St Tryz.prog):=(t4++[.d h4])
       cases h5:(decide (((W (a2 - v5)):Int)≥2)) with
       | true =>
        have q5:=cJ h5
        have e:=Eq.refl (bC a0 a0_o a0_n a1 a2 a3 (v4,v5,v6));conv at e=>rhs;simp only [bC,h0,h1,h2,h3,h4,h5,aT]
        rw [aJ,e]
        refine en (t5++[.d h5]) [] [0,1,2,3,9,10,12] [] hcx iU (iV n0) (iH a0 a0_o a0_n a1 a2 a3 (splice (splice (flat c3 v4) (0+a0_o*1+tN v5*1) [(iv (v4.getD (a0_o+tN (W (v5 - 1))) dF))]) (0+a0_o*1+tN (W (v5 - 1))*1) [(iv (v4.getD (a0_o+tN v5) dF))]) (v4.length) v5 v6 (W (v5+1))) (tN (a2 - (v5+1))+1) (by kernel_rfl) ?_
        have z0:(W (v5+1))=(v5+1):=aS (by omega) (by omega)
        have z1:(splice (splice (flat c3 v4) (0+a0_o*1+tN v5*1) [(iv (v4.getD (a0_o+tN (W (v5 - 1))) dF))]) (0+a0_o*1+tN (W (v5 - 1))*1) [(iv (v4.getD (a0_o+tN v5) dF))])=flat c3 ((v4.set (a0_o+tN v5) (v4.getD (a0_o+tN (W (v5 - 1))) dF)).set (a0_o+tN (W (v5 - 1))) (v4.getD (a0_o+tN v5) dF)):=(by rw [show(splice (flat c3 v4) (0+a0_o*1+tN v5*1) [(iv (v4.getD (a0_o+tN (W (v5 - 1))) dF))])=flat c3 (v4.set (a0_o+tN v5) (v4.getD (a0_o+tN (W (v5 - 1))) dF)) from(aP aF (by first | omega | (simp only [Lt];omega)) (o:=0) (d:=dF) (Nb rfl) rfl)];exact aP aF (by first | omega | (simp only [Lt];omega)) (o:=0) (d:=dF) (Nb rfl) rfl)
        have z2:v4.length=((v4.set (a0_o+tN v5) (v4.getD (a0_o+tN (W (v5 - 1))) dF)).set (a0_o+tN (W (v5 - 1))) (v4.getD (a0_o+tN v5) dF)).length:=by simp
        rw [z0,z1,z2]
        exact mR a0 a0_o a0_n a1 a2 a3 l0 l3_1_1 l3_1_2_2_1 l3_1_2_2_2 hw hr hab hcx n0 g0 (tN (a2 - (v5+1))+1) ((v4.set (a0_o+tN v5) (v4.getD (a0_o+tN (W (v5 - 1))) dF)).set (a0_o+tN (W (v5 - 1))) (v4.getD (a0_o+tN v5) dF)) v5 v6 (v5+1) (by and_intros<;>(try simp only [Lt])<;>first | omega | assumption | exact hi.2.1 | exact hi.2.2.1 | exact InR.swap hi.2.1 (by omega) (by omega) | exact InR.swap hr (by omega) (by omega)) (by omega)
       | false =>
        have q5:=cN h5
        have e:=Eq.refl (bC a0 a0_o a0_n a1 a2 a3 (v4,v5,v6));conv at e=>rhs;simp only [bC,h0,h1,h2,h3,h4,h5,aT]
        rw [aJ,e]
        refine ba (t5++[.d h5]) [] [0,1,2,3,9,10] [] hcx (m:=n0) eQ (eR) (dX a0 a0_o a0_n a1 a2 a3 (splice (splice (flat c3 v4) (0+a0_o*1+tN v5*1) [(iv (v4.getD (a0_o+tN (W (v5 - 1))) dF))]) (0+a0_o*1+tN (W (v5 - 1))*1) [(iv (v4.getD (a0_o+tN v5) dF))]) (v4.length) v5 (W (v6+1))) (by kernel_rfl) ?_
        have z0:(W (v6+1))=(v6+1):=aS (by omega) (by omega)
        have z1:(splice (splice (flat c3 v4) (0+a0_o*1+tN v5*1) [(iv (v4.getD (a0_o+tN (W (v5 - 1))) dF))]) (0+a0_o*1+tN (W (v5 - 1))*1) [(iv (v4.getD (a0_o+tN v5) dF))])=flat c3 ((v4.set (a0_o+tN v5) (v4.getD (a0_o+tN (W (v5 - 1))) dF)).set (a0_o+tN (W (v5 - 1))) (v4.getD (a0_o+tN v5) dF)):=(by rw [show(splice (flat c3 v4) (0+a0_o*1+tN v5*1) [(iv (v4.getD (a0_o+tN (W (v5 - 1))) dF))])=flat c3 (v4.set (a0_o+tN v5) (v4.getD (a0_o+tN (W (v5 - 1))) dF)) from(aP aF (by first | omega | (simp only [Lt];omega)) (o:=0) (d:=dF) (Nb rfl) rfl)];exact aP aF (by first | omega | (simp only [Lt];omega)) (o:=0) (d:=dF) (Nb rfl) rfl)
        have z2:v4.length=((v4.set (a0_o+tN v5) (v4.getD (a0_o+tN (W (v5 - 1))) dF)).set (a0_o+tN (W (v5 - 1))) (v4.getD (a0_o+tN v5) dF)).length:=by simp
        rw [z0,z1,z2]
        exact g0 ((v4.set (a0_o+tN v5) (v4.getD (a0_o+tN (W (v5 - 1))) dF)).set (a0_o+tN (W (v5 - 1))) (v4.getD (a0_o+tN v5) dF)) v5 (v6+1) (by and_intros<;>(try simp only [Lt])<;>first | omega | assumption | exact hi.2.1 | exact hi.2.2.1 | exact InR.swap hi.2.1 (by omega) (by omega) | exact InR.swap hr (by omega) (by omega)) (by omega)
  | false =>
   have q0:=cN h0
   let t1:List (St Tryz.prog):=[.d h0]
   cases h1:((v5:Int) == a2) with
   | true =>
    have q1:=eq_of_beq h1
    have e:=Eq.refl (bC a0 a0_o a0_n a1 a2 a3 (v4,v5,v6));conv at e=>rhs;simp only [bC,h0,h1,aT]
    rw [aJ,e]
    try dsimp only [bA]
    try dsimp only
    exact wW (t1++[.d h1]) [] [0] [] hcx (by kernel_rfl)
   | false =>
    have q1:=ne_of_beq_false h1
    let t2:List (St Tryz.prog):=(t1++[.d h1])
    cases h2:(decide (((W (a2 - a1)):Int) < 50)) with
    | true =>
     have q2:=cJ h2
     have e:=Eq.refl (bC a0 a0_o a0_n a1 a2 a3 (v4,v5,v6));conv at e=>rhs;simp only [bC,h0,h1,h2,aT]
     rw [aJ,e]
     try dsimp only [bA]
     try dsimp only
     exact wW (t2++[.d h2]) [] [0] [] hcx (by kernel_rfl)
    | false =>
     have q2:=cN h2
     let t3:List (St Tryz.prog):=(t2++[.d h2,.i (W (v5 - 1)) a0_n,cQ aF v4 a0_o (W (v5 - 1)) 0 1,.i v5 a0_n,cQ aF v4 a0_o v5 0 1,.i v5 a0_n,.p (show((0+a0_o*1+tN v5*1)+1<=(flat c3 v4).length) from(aX aF (by first | omega | (simp only [Lt];omega)) (o:=0) (Nb rfl))),.i (W (v5 - 1)) a0_n,.p (show((0+a0_o*1+tN (W (v5 - 1))*1)+1<=(splice (flat c3 v4) (0+a0_o*1+tN v5*1) [(iv (v4.getD (a0_o+tN (W (v5 - 1))) dF))]).length) from(by rw [show(splice (flat c3 v4) (0+a0_o*1+tN v5*1) [(iv (v4.getD (a0_o+tN (W (v5 - 1))) dF))])=flat c3 (v4.set (a0_o+tN v5) (v4.getD (a0_o+tN (W (v5 - 1))) dF)) from(aP aF (by first | omega | (simp only [Lt];omega)) (o:=0) (d:=dF) (Nb rfl) rfl)];exact aX aF (by first | omega | (simp only [Lt];omega)) (o:=0) (Nb rfl)))])
     cases h3:(decide (((W (v5 - a1)):Int)≥2)) with
     | true =>
      have q3:=cJ h3
      have e:=Eq.refl (bC a0 a0_o a0_n a1 a2 a3 (v4,v5,v6));conv at e=>rhs;simp only [bC,h0,h1,h2,h3,aT]
      rw [aJ,e]
      refine en (t3++[.d h3]) [] [0,1,2,3,9,10,11] [] hcx mP (mQ n0) (lM a0 a0_o a0_n a1 a2 a3 (splice (splice (flat c3 v4) (0+a0_o*1+tN v5*1) [(iv (v4.getD (a0_o+tN (W (v5 - 1))) dF))]) (0+a0_o*1+tN (W (v5 - 1))*1) [(iv (v4.getD (a0_o+tN v5) dF))]) (v4.length) v5 v6 (W (v5 - 1))) (tN (W (v5 - 1))+1) (by kernel_rfl) ?_
      have z0:(splice (splice (flat c3 v4) (0+a0_o*1+tN v5*1) [(iv (v4.getD (a0_o+tN (W (v5 - 1))) dF))]) (0+a0_o*1+tN (W (v5 - 1))*1) [(iv (v4.getD (a0_o+tN v5) dF))])=flat c3 ((v4.set (a0_o+tN v5) (v4.getD (a0_o+tN (W (v5 - 1))) dF)).set (a0_o+tN (W (v5 - 1))) (v4.getD (a0_o+tN v5) dF)):=(by rw [show(splice (flat c3 v4) (0+a0_o*1+tN v5*1) [(iv (v4.getD (a0_o+tN (W (v5 - 1))) dF))])=flat c3 (v4.set (a0_o+tN v5) (v4.getD (a0_o+tN (W (v5 - 1))) dF)) from(aP aF (by first | omega | (simp only [Lt];omega)) (o:=0) (d:=dF) (Nb rfl) rfl)];exact aP aF (by first | omega | (simp only [Lt];omega)) (o:=0) (d:=dF) (Nb rfl) rfl)
      have z1:v4.length=((v4.set (a0_o+tN v5) (v4.getD (a0_o+tN (W (v5 - 1))) dF)).set (a0_o+tN (W (v5 - 1))) (v4.getD (a0_o+tN v5) dF)).length:=by simp
      rw [z0,z1]
      exact vW a0 a0_o a0_n a1 a2 a3 l0 l3_1_1 l3_1_2_2_1 l3_1_2_2_2 hw hr hab hcx n0 g0 (tN (W (v5 - 1))+1) ((v4.set (a0_o+tN v5) (v4.getD (a0_o+tN (W (v5 - 1))) dF)).set (a0_o+tN (W (v5 - 1))) (v4.getD (a0_o+tN v5) dF)) v5 v6 (W (v5 - 1)) (by and_intros<;>(try simp only [Lt])<;>first | omega | assumption | exact hi.2.1 | exact hi.2.2.1 | exact InR.swap hi.2.1 (by omega) (by omega) | exact InR.swap hr (by omega) (by omega)) (by omega)
     | false =>
      have q3:=cN h3
      let t4:List (St Tryz.prog):=(t3++[.d h3])
      cases h4:(decide (((W (a2 - v5)):Int)≥2)) with
      | true =>
       have q4:=cJ h4
       have e:=Eq.refl (bC a0 a0_o a0_n a1 a2 a3 (v4,v5,v6));conv at e=>rhs;simp only [bC,h0,h1,h2,h3,h4,aT]
       rw [aJ,e]
       refine en (t4++[.d h4]) [] [0,1,2,3,9,10,12] [] hcx iU (iV n0) (iH a0 a0_o a0_n a1 a2 a3 (splice (splice (flat c3 v4) (0+a0_o*1+tN v5*1) [(iv (v4.getD (a0_o+tN (W (v5 - 1))) dF))]) (0+a0_o*1+tN (W (v5 - 1))*1) [(iv (v4.getD (a0_o+tN v5) dF))]) (v4.length) v5 v6 (W (v5+1))) (tN (a2 - (v5+1))+1) (by kernel_rfl) ?_
       have z0:(W (v5+1))=(v5+1):=aS (by omega) (by omega)
       have z1:(splice (splice (flat c3 v4) (0+a0_o*1+tN v5*1) [(iv (v4.getD (a0_o+tN (W (v5 - 1))) dF))]) (0+a0_o*1+tN (W (v5 - 1))*1) [(iv (v4.getD (a0_o+tN v5) dF))])=flat c3 ((v4.set (a0_o+tN v5) (v4.getD (a0_o+tN (W (v5 - 1))) dF)).set (a0_o+tN (W (v5 - 1))) (v4.getD (a0_o+tN v5) dF)):=(by rw [show(splice (flat c3 v4) (0+a0_o*1+tN v5*1) [(iv (v4.getD (a0_o+tN (W (v5 - 1))) dF))])=flat c3 (v4.set (a0_o+tN v5) (v4.getD (a0_o+tN (W (v5 - 1))) dF)) from(aP aF (by first | omega | (simp only [Lt];omega)) (o:=0) (d:=dF) (Nb rfl) rfl)];exact aP aF (by first | omega | (simp only [Lt];omega)) (o:=0) (d:=dF) (Nb rfl) rfl)
       have z2:v4.length=((v4.set (a0_o+tN v5) (v4.getD (a0_o+tN (W (v5 - 1))) dF)).set (a0_o+tN (W (v5 - 1))) (v4.getD (a0_o+tN v5) dF)).length:=by simp
       rw [z0,z1,z2]
       exact mR a0 a0_o a0_n a1 a2 a3 l0 l3_1_1 l3_1_2_2_1 l3_1_2_2_2 hw hr hab hcx n0 g0 (tN (a2 - (v5+1))+1) ((v4.set (a0_o+tN v5) (v4.getD (a0_o+tN (W (v5 - 1))) dF)).set (a0_o+tN (W (v5 - 1))) (v4.getD (a0_o+tN v5) dF)) v5 v6 (v5+1) (by and_intros<;>(try simp only [Lt])<;>first | omega | assumption | exact hi.2.1 | exact hi.2.2.1 | exact InR.swap hi.2.1 (by omega) (by omega) | exact InR.swap hr (by omega) (by omega)) (by omega)
      | false =>
       have q4:=cN h4
       have e:=Eq.refl (bC a0 a0_o a0_n a1 a2 a3 (v4,v5,v6));conv at e=>rhs;simp only [bC,h0,h1,h2,h3,h4,aT]
       rw [aJ,e]
       refine ba (t4++[.d h4]) [] [0,1,2,3,9,10] [] hcx (m:=n0) eQ (eR) (dX a0 a0_o a0_n a1 a2 a3 (splice (splice (flat c3 v4) (0+a0_o*1+tN v5*1) [(iv (v4.getD (a0_o+tN (W (v5 - 1))) dF))]) (0+a0_o*1+tN (W (v5 - 1))*1) [(iv (v4.getD (a0_o+tN v5) dF))]) (v4.length) v5 (W (v6+1))) (by kernel_rfl) ?_
       have z0:(W (v6+1))=(v6+1):=aS (by omega) (by omega)
       have z1:(splice (splice (flat c3 v4) (0+a0_o*1+tN v5*1) [(iv (v4.getD (a0_o+tN (W (v5 - 1))) dF))]) (0+a0_o*1+tN (W (v5 - 1))*1) [(iv (v4.getD (a0_o+tN v5) dF))])=flat c3 ((v4.set (a0_o+tN v5) (v4.getD (a0_o+tN (W (v5 - 1))) dF)).set (a0_o+tN (W (v5 - 1))) (v4.getD (a0_o+tN v5) dF)):=(by rw [show(splice (flat c3 v4) (0+a0_o*1+tN v5*1) [(iv (v4.getD (a0_o+tN (W (v5 - 1))) dF))])=flat c3 (v4.set (a0_o+tN v5) (v4.getD (a0_o+tN (W (v5 - 1))) dF)) from(aP aF (by first | omega | (simp only [Lt];omega)) (o:=0) (d:=dF) (Nb rfl) rfl)];exact aP aF (by first | omega | (simp only [Lt];omega)) (o:=0) (d:=dF) (Nb rfl) rfl)
       have z2:v4.length=((v4.set (a0_o+tN v5) (v4.getD (a0_o+tN (W (v5 - 1))) dF)).set (a0_o+tN (W (v5 - 1))) (v4.getD (a0_o+tN v5) dF)).length:=by simp
       rw [z0,z1,z2]
       exact g0 ((v4.set (a0_o+tN v5) (v4.getD (a0_o+tN (W (v5 - 1))) dF)).set (a0_o+tN (W (v5 - 1))) (v4.getD (a0_o+tN v5) dF)) v5 (v6+1) (by and_intros<;>(try simp only [Lt])<;>first | omega | assumption | exact hi.2.1 | exact hi.2.2.1 | exact InR.swap hi.2.1 (by omega) (by omega) | exact InR.swap hr (by omega) (by omega)) (by omega)
theorem aEw (a0:List Int)(a0_o:Nat)(a0_n:Nat)(a1:Int)(a2:Int)(a3:eP×Int)(l0:a0.length<=2^63-1)(l3_1_1:a3.1.1.length<=2^63-1)(l3_1_2_2_1:a3.1.2.2.1.length<=2^63-1)(l3_1_2_2_2:a3.1.2.2.2.length<=2^63-1)(hw:a0_o+a0_n<=a0.length/\a0.length<=1048576)(hr:InR a3.1.1.length a0)(hab:0<=a1/\a1 < a2/\a2<=↑a0_n) {cx:Cx} (hcx:cx.base=4):∀(n:Nat) (v1:List Int) (v2 v3:Int),(v1.length=a0.length)/\(InR a3.1.1.length v1)/\(a1 < v2)/\(v2<=a2)/\(0<=v3)/\(v3<=5)->tN (5 - v3) < n->Aw.Good Tryz.prog none 9 (bodyPost Tryz.prog Tryz.f114 (RR cx (.v (.bool (aH (bN a0 a0_o a0_n a1 a2 a3) n (v1,v2,v3)).1)) [] [(.live true true (flat c3 (aH (bN a0 a0_o a0_n a1 a2 a3) n (v1,v2,v3)).2)),.un,.un,.un])) cx [] (.l eQ n::eR) (dX a0 a0_o a0_n a1 a2 a3 (flat c3 v1) v1.length v2 v3):=by
 intro n
 induction n with
 | zero=>intro v1 v2 v3 hi hn;exact absurd hn (eI _)
 | succ n ih =>
  intro v1 v2 v3 hi hn
  refine aR ?_
  have hw_0:W (v2 - 1)=v2 - 1:=(aS (n:=v2 - 1) (by omega) (by omega)).trans (by omega)
  have hw_1:W (v2+1)=v2+1:=(aS (n:=v2+1) (by omega) (by omega)).trans (by omega)
  have hw_2:W (v3+1)=v3+1:=(aS (n:=v3+1) (by omega) (by omega)).trans (by omega)
  have hw_3:W (a2 - a1)=a2 - a1:=(aS (n:=a2 - a1) (by omega) (by omega)).trans (by omega)
  have hw_4:W (v2 - a1)=v2 - a1:=(aS (n:=v2 - a1) (by omega) (by omega)).trans (by omega)
  have hw_5:W (a2 - v2)=a2 - v2:=(aS (n:=a2 - v2) (by omega) (by omega)).trans (by omega)
  cases h0:(decide ((v3:Int) < 5)) with
  | true =>
   have q0:=cJ h0
   have e:=Eq.refl (bN a0 a0_o a0_n a1 a2 a3 (v1,v2,v3));conv at e=>rhs;simp only [bN,h0,aT]
   rw [aJ,e]
   refine en [.d h0] [] [0,1,2,3,9,10] [] hcx qQ (qR n) (oQ a0 a0_o a0_n a1 a2 a3 (flat c3 v1) (v1.length) v2 v3) (tN (a2 - v2)+1) (by kernel_rfl) ?_
   exact aEv a0 a0_o a0_n a1 a2 a3 l0 l3_1_1 l3_1_2_2_1 l3_1_2_2_2 hw hr hab hcx n ih (tN (a2 - v2)+1) v1 v2 v3 (by and_intros<;>(try simp only [Lt])<;>first | omega | assumption | exact hi.2.1 | exact hi.2.2.1 | exact InR.swap hi.2.1 (by omega) (by omega) | exact InR.swap hr (by omega) (by omega)) (by omega)
  | false =>
   have q0:=cN h0
   have e:=Eq.refl (bN a0 a0_o a0_n a1 a2 a3 (v1,v2,v3));conv at e=>rhs;simp only [bN,h0,aT]
   rw [aJ,e]
   try dsimp only [bA]
   try dsimp only
   exact wW [.d h0] [] [0] [] hcx (by kernel_rfl)
def cV (a0:List Int)(a0_o:Nat)(a0_n:Nat)(a1:Int)(a2:Int)(a3:eP×Int):Bool×List Int :=
 (aH (bN a0 a0_o a0_n a1 a2 a3) (tN (5 - 0)+1) (a0,(W (a1+1)),0))
theorem aJc (a0:List Int)(a0_o:Nat)(a0_n:Nat)(a1:Int)(a2:Int)(a3:eP×Int)(l0:a0.length<=2^63-1)(l3_1_1:a3.1.1.length<=2^63-1)(l3_1_2_2_1:a3.1.2.2.1.length<=2^63-1)(l3_1_2_2_2:a3.1.2.2.2.length<=2^63-1)(hw:a0_o+a0_n<=a0.length/\a0.length<=1048576)(hr:InR a3.1.1.length a0)(hab:0<=a1/\a1 < a2/\a2<=↑a0_n):Con Tryz.prog 114 [(.s 0 (0+a0_o*1) a0_n 1),(iv a1),(iv a2),(.f 1000075 [(.a [(.p 1 0),(iv a3.2)])])] [(.live true true (flat c3 a0)),(.live false false [(.s 2 0 a3.1.1.length 10),(iv a3.1.2.1),(.s 0 0 a0.length 1),(.s 3 0 a3.1.2.2.2.length 8)]),(.live false true (flat dC a3.1.1)),(.live false true (flat cB a3.1.2.2.2))] (.v (.bool (cV a0 a0_o a0_n a1 a2 a3).1)) [] [(.live true true (flat c3 (cV a0 a0_o a0_n a1 a2 a3).2)),.un,.un,.un]:=by
 refine aY Tryz.func114 (by kernel_rfl) fun cx hcx=>?_
 have hw_0:W (a1+1)=a1+1:=(aS (n:=a1+1) (by omega) (by omega)).trans (by omega)
 have e:=Eq.refl (cV a0 a0_o a0_n a1 a2 a3);conv at e=>rhs;simp only [cV]
 rw [e]
 refine en [] [] [0,1,2,3,9,10] [] hcx eQ (eR) (dX a0 a0_o a0_n a1 a2 a3 (flat c3 a0) (a0.length) (W (a1+1)) 0) (tN (5 - 0)+1) (by kernel_rfl) ?_
 exact aEw a0 a0_o a0_n a1 a2 a3 l0 l3_1_1 l3_1_2_2_1 l3_1_2_2_2 hw hr hab hcx (tN (5 - 0)+1) a0 (W (a1+1)) 0 (by and_intros<;>(try simp only [Lt])<;>first | omega | assumption | exact hi.2.1 | exact hi.2.2.1 | exact InR.swap hi.2.1 (by omega) (by omega) | exact InR.swap hr (by omega) (by omega)) (by omega)
end Go.Proofs.YtkdfcbmcgnaicaaGreat
namespace Go.Proofs.YtkdfcbmcgnaicaaGreat
open Go.Proofs Go.Aw Go.RowKit
set_option maxRecDepth 100000
def aU (a0:List Int)(a0_o:Nat)(a0_n:Nat)(a1:Int)(a2:Int)(a3:Int)(a4:eP×Int):Zt :=
 (bif (decide (((pL ((a4.1.1,a4.1.2.1,(a0,a4.1.2.2.2)),a4.2) (a0.getD (a0_o+tN a2) dF) (a0.getD (a0_o+tN a1) dF)):Int) < 0)) then
  (a2,a1,(W (a3+1)))
 else
  (a1,a2,a3))
theorem uG (a0:List Int)(a0_o:Nat)(a0_n:Nat)(a1:Int)(a2:Int)(a3:Int)(a4:eP×Int)(l0:a0.length<=2^63-1)(l4_1_1:a4.1.1.length<=2^63-1)(l4_1_2_2_1:a4.1.2.2.1.length<=2^63-1)(l4_1_2_2_2:a4.1.2.2.2.length<=2^63-1)(hw:a0_o+a0_n<=a0.length/\a0.length<=1048576)(hr:InR a4.1.1.length a0)(hab:0<=a1/\a1 < ↑a0_n/\0<=a2/\a2 < ↑a0_n):Con Tryz.prog 134 [(.s 0 (0+a0_o*1) a0_n 1),(iv a1),(iv a2),(.p 1 0),(.f 1000075 [(.a [(.p 2 0),(iv a4.2)])])] [(.live false true (flat c3 a0)),(.live true false [(iv a3)]),(.live false false [(.s 3 0 a4.1.1.length 10),(iv a4.1.2.1),(.s 0 0 a0.length 1),(.s 4 0 a4.1.2.2.2.length 8)]),(.live false true (flat dC a4.1.1)),(.live false true (flat cB a4.1.2.2.2))] (.t [(iv (aU a0 a0_o a0_n a1 a2 a3 a4).1),(iv (aU a0 a0_o a0_n a1 a2 a3 a4).2.1)]) [] [.un,(.live true false [(iv (aU a0 a0_o a0_n a1 a2 a3 a4).2.2)]),.un,.un,.un]:=by
 refine aY Tryz.func134 (by kernel_rfl) fun cx hcx=>?_
 let t0:List (St Tryz.prog):=[.i a2 a0_n,cQ aF a0 a0_o a2 0 1,.i a1 a0_n,cQ aF a0 a0_o a1 0 1,.c [2,3,0,4] (C75 ((a4.1.1,a4.1.2.1,(a0,a4.1.2.2.2)),a4.2) (a0.getD (a0_o+tN a2) dF) (a0.getD (a0_o+tN a1) dF) (by omega) (by omega) (by omega) (hr.at (by omega)) (hr.at (by omega)))]
 cases h0:(decide (((pL ((a4.1.1,a4.1.2.1,(a0,a4.1.2.2.2)),a4.2) (a0.getD (a0_o+tN a2) dF) (a0.getD (a0_o+tN a1) dF)):Int) < 0)) with
 | true =>
  have q0:=cJ h0
  have e:=Eq.refl (aU a0 a0_o a0_n a1 a2 a3 a4);conv at e=>rhs;simp only [aU,h0,aT]
  rw [e]
  try dsimp only [bA]
  try dsimp only
  exact wW (t0++[.d h0]) [] [1] [] hcx (by kernel_rfl)
 | false =>
  have q0:=cN h0
  have e:=Eq.refl (aU a0 a0_o a0_n a1 a2 a3 a4);conv at e=>rhs;simp only [aU,h0,aT]
  rw [e]
  try dsimp only [bA]
  try dsimp only
  exact wW (t0++[.d h0]) [] [1] [] hcx (by kernel_rfl)
abbrev rG:=eP×Int
def bK (c:rG)(x y:Int):Bool:=decide (pL c x y < 0)
theorem aK5 (c:rG)(v:List Int)(x y:Int):pL ((c.1.1,c.1.2.1,(v,c.1.2.2.2)),c.2) x y=pL c x y:=rfl
theorem aK6 (c:rG)(x y:Int):decide (pL c x y < 0)=bK c x y:=rfl
def wp (l:List Int)(o:Nat)(d:Array Int):List Int:=l.take o++d.toList++l.drop (o+d.size)
def kL (l:List Int)(o n:Nat):Array Int:=((l.drop o).take n).toArray
theorem fP {l:List Int} {o n:Nat} (h:o+n<=l.length):(kL l o n).size=n:=by unfold kL;simp;omega
section
variable {l : List Int} {o : Nat} {d : Array Int}
theorem aBl (h:o+d.size<=l.length):(wp l o d).length=l.length:=by unfold wp;simp;omega
theorem cW (h:o+d.size<=l.length) {i:Nat} (hi:i < d.size):(wp l o d).getD (o+i) dF=d[i]! := by
 unfold wp
 have h1:(l.take o++d.toList).length=o+d.size:=by simp;omega
 rw [fV,List.getElem?_append_left (by omega),List.getElem?_append_right (by simp;omega)]
 rw [show o+i - (l.take o).length=i by simp;omega]
 rw [getElem!_pos d i hi]
 simp [hi]
theorem aOm (h:o+d.size<=l.length) {i:Nat} (hi:i < d.size)(x:Int):(wp l o d).set (o+i) x=wp l o (d.setIfInBounds i x):=by
 unfold wp
 have h0:(l.take o).length=o:=by simp;omega
 rw [List.append_assoc,List.set_append_right _ _ (by omega),h0,show o+i - o=i by omega,List.set_append_left _ _ (by simpa using hi),List.append_assoc,Array.toList_setIfInBounds,Array.size_setIfInBounds]
theorem gP (h:o+d.size<=l.length) {i j:Nat} (hi:i < d.size)(hj:j < d.size) :
 ((wp l o d).set (o+i) ((wp l o d).getD (o+j) dF)).set (o+j) ((wp l o d).getD (o+i) dF)=wp l o (Go.Sort.swp d i j):=by
 rw [cW h hi,cW h hj,aOm h hi,aOm (by simpa using h) (by simpa using hj)]
 rfl
theorem nH {n:Nat} (h:o+n<=l.length):wp l o (kL l o n)=l:=by
 unfold wp
 rw [fP h]
 unfold kL
 have:(l.drop o).drop n=l.drop (o+n):=by rw [List.drop_drop]
 rw [←this,List.append_assoc]
 show l.take o++((l.drop o).take n++(l.drop o).drop n)=l
 rw [List.take_append_drop,List.take_append_drop]
theorem rY (d:Array Int)(i j:Nat):(Go.Sort.swp d i j).size=d.size:=by simp [Go.Sort.swp]
theorem wN {x:Int} {n:Nat} (h:x=(n:Int))(hn:n<=4611686018427387904):W x=(n:Int):=by rw [h];exact aS (by omega) (by omega)
end
end Go.Proofs.YtkdfcbmcgnaicaaGreat
namespace Go.Proofs.YtkdfcbmcgnaicaaGreat
open Go.Proofs Go.Aw Go.RowKit
set_option maxRecDepth 100000
section
variable {N o n hi first : Nat} {l l0 : List Int} {a1 : Int} {c : rG}
theorem aEx (hl:o+n<=l.length)(hfh:first+hi<=n)(hn:n<=1048576):∀(m:Nat) (d:Array Int) (root:Nat),d.size=n->root<=1048576->hi - root < m ->
 aH (bM l0 o n a1 (hi:Int) (first:Int) c) m (wp l o d,(root:Int))=wp l o (Go.Sort.siftDown (bK c) hi first root d)/\(InR N (wp l o d)->InR N (wp l o (Go.Sort.siftDown (bK c) hi first root d)))/\(Go.Sort.siftDown (bK c) hi first root d).size=n
 | 0,d,root,_,_,h=>absurd h (eI _)
 | m+1,d,root,hd,hr,hm=>by
  have e1:W ((W (2*(root:Int)))+1)=((2*root+1:Nat):Int):=by rw [wN (x:=2*(root:Int)) (n:=2*root) (by omega) (by omega)];exact wN (by omega) (by omega)
  have e2:W (((2*root+1:Nat):Int)+1)=((2*root+2:Nat):Int):=wN (by omega) (by omega)
  have e3:W ((first:Int)+(root:Int))=((first+root:Nat):Int):=wN (by omega) (by omega)
  have e4:W ((first:Int)+((2*root+1:Nat):Int))=((first+(2*root+1):Nat):Int):=wN (by omega) (by omega)
  have e5:W ((first:Int)+((2*root+2:Nat):Int))=((first+(2*root+2):Nat):Int):=wN (by omega) (by omega)
  have e6:W (((first+(2*root+1):Nat):Int)+1)=((first+(2*root+2):Nat):Int):=wN (by omega) (by omega)
  have hl':o+d.size<=l.length:=by omega
  rw [Go.Sort.siftDown]
  by_cases h1:2*root+1≥hi
  ·rw [dif_pos h1]
   refine⟨aQ ?_,id,hd⟩
   simp only [bM,e1]
   rw [cH (by omega),cond_true]
  ·rw [dif_neg h1]
   have g1:=cW hl' (i:=first+(2*root+1)) (by omega)
   have g0:=cW hl' (i:=first+root) (by omega)
   have one:∀k,k < hi->root < k->((bM l0 o n a1 (hi:Int) (first:Int) c (wp l o d,(root:Int))=(bif (!bK c d[first+root]! d[first+k]!) then .inr (wp l o d) else .inl (wp l o (Go.Sort.swp d (first+root) (first+k)),(k:Int)))) ->
    aH (bM l0 o n a1 (hi:Int) (first:Int) c) (m+1) (wp l o d,(root:Int))=wp l o (if !bK c d[first+root]! d[first+k]! then d else Go.Sort.siftDown (bK c) hi first k (Go.Sort.swp d (first+root) (first+k)))/\(InR N (wp l o d)->InR N (wp l o (if !bK c d[first+root]! d[first+k]! then d else Go.Sort.siftDown (bK c) hi first k (Go.Sort.swp d (first+root) (first+k)))))/\(if !bK c d[first+root]! d[first+k]! then d else Go.Sort.siftDown (bK c) hi first k (Go.Sort.swp d (first+root) (first+k))).size=n):=fun k hk hrk e=>by
    cases q:bK c d[first+root]! d[first+k]! with
    | false =>
     rw [q] at e
     exact⟨aQ e,id,hd⟩
    | true =>
     rw [q] at e
     have e':bM l0 o n a1 (hi:Int) (first:Int) c (wp l o d,(root:Int))=.inl (wp l o (Go.Sort.swp d (first+root) (first+k)),(k:Int)):=e
     rw [aI e']
     simp only [Bool.not_true,Bool.false_eq_true,if_false]
     have ih:=aEx hl hfh hn m (Go.Sort.swp d (first+root) (first+k)) k (by rw [rY];exact hd) (by omega) (by omega)
     refine⟨ih.1,fun hI=>ih.2.1 ?_,ih.2.2⟩
     rw [←gP hl' (by omega) (by omega)]
     exact hI.swap (by rw [aBl hl'];omega) (by rw [aBl hl'];omega)
   have big:bM l0 o n a1 (hi:Int) (first:Int) c (wp l o d,(root:Int)) =
    if 2*root+1+1 < hi&&bK c d[first+(2*root+1)]! d[first+(2*root+1)+1]! then(bif (!bK c d[first+root]! d[first+(2*root+2)]!) then .inr (wp l o d) else .inl (wp l o (Go.Sort.swp d (first+root) (first+(2*root+2))),((2*root+2:Nat):Int)))
    else(bif (!bK c d[first+root]! d[first+(2*root+1)]!) then .inr (wp l o d) else .inl (wp l o (Go.Sort.swp d (first+root) (first+(2*root+1))),((2*root+1:Nat):Int))):=by
    simp only [bM,e1,e2,e3,e4,e5,e6,fZ,aK5,aK6,g1,g0]
    rw [dA (show ¬((2*root+1:Nat):Int)≥(hi:Int) by omega),cond_false,gP hl' (i:=first+root) (j:=first+(2*root+1)) (by omega) (by omega) |>.symm,g1,g0]
    by_cases h2:2*root+2 < hi
    ·have g2:=cW hl' (i:=first+(2*root+2)) (by omega)
     rw [cH (show((2*root+2:Nat):Int) < (hi:Int) by omega),cond_true,g2,cH (show 2*root+1+1 < hi from h2),Bool.true_and,gP hl' (i:=first+root) (j:=first+(2*root+2)) (by omega) (by omega) |>.symm,g2,g0]
     show _=if bK c d[first+(2*root+1)]! d[first+(2*root+2)]! = true then _ else _
     cases bK c d[first+(2*root+1)]! d[first+(2*root+2)]! <;> rfl
    ·rw [dA (show ¬((2*root+2:Nat):Int) < (hi:Int) by omega),cond_false,dA (show ¬2*root+1+1 < hi from h2),Bool.false_and]
     rfl
   by_cases h2:(2*root+1+1 < hi&&bK c d[first+(2*root+1)]! d[first+(2*root+1)+1]!)=true
   ·rw [if_pos h2] at big
    have hlt:2*root+2 < hi:=by simp at h2;omega
    rw [if_pos h2]
    simp only [hlt,dite_true]
    exact one _ hlt (by omega) big
   ·rw [if_neg h2] at big
    rw [if_neg h2]
    exact one _ (by omega) (by omega) big
theorem aVw (hl:o+n<=l.length)(hn:n<=1048576)(lo:Int)(hlo:0<=lo/\lo<=1048576)(hif:(0:Int)<=hi/\first+hi<=n)(hI:InR N l) :
 dD l o n lo (hi:Int) (first:Int) c=wp l o (Go.Sort.siftDown (bK c) hi first lo.toNat (kL l o n))/\InR N (dD l o n lo (hi:Int) (first:Int) c)/\(Go.Sort.siftDown (bK c) hi first lo.toNat (kL l o n)).size=n:=by
 unfold dD
 have:=aEx (N:=N) (l:=l) (l0:=l) (o:=o) (n:=n) (a1:=lo) (hi:=hi) (first:=first) (c:=c) hl hif.2 hn (tN ((hi:Int) - lo)+1) (kL l o n) lo.toNat (fP hl) (by omega) (by omega)
 rw [nH hl,Int.toNat_of_nonneg hlo.1] at this
 refine⟨this.1,?_,this.2.2⟩
 rw [this.1];exact this.2.1 hI
theorem aS6 {d:Array Int} {lo:Nat} (hl:o+n<=l.length)(hn:n<=1048576)(hlo:lo<=1048576)(hf:first+hi<=n)(hd:d.size=n) :
 dD (wp l o d) o n (lo:Int) (hi:Int) (first:Int) c=wp l o (Go.Sort.siftDown (bK c) hi first lo d)/\(Go.Sort.siftDown (bK c) hi first lo d).size=n:=by
 unfold dD
 have:=aEx (N:=0) (l:=l) (l0:=wp l o d) (o:=o) (n:=n) (a1:=(lo:Int)) (hi:=hi) (first:=first) (c:=c) hl hf hn (tN ((hi:Int) - (lo:Int))+1) d lo hd hlo (by omega)
 exact⟨this.1,this.2.2⟩
end
theorem aS7 {N o n:Nat} {l:List Int} {lo hi first:Int} {c:rG} (hl:o+n<=l.length)(hn:n<=1048576)(hlo:0<=lo/\lo<=1048576)(h0:0<=hi/\0<=first/\first+hi<=n)(hI:InR N l) :
 (dD l o n lo hi first c).length=l.length/\InR N (dD l o n lo hi first c):=by
 obtain⟨hi,rfl⟩:∃k:Nat,hi=k:=⟨hi.toNat,by omega⟩
 obtain⟨first,rfl⟩:∃k:Nat,first=k:=⟨first.toNat,by omega⟩
 have:=aVw (c:=c) hl hn lo hlo (hi:=hi) (first:=first) (by omega) hI
 refine⟨?_,this.2.1⟩
 rw [this.1,aBl (by rw [this.2.2];exact hl)]
theorem aOn {n:Int} (h:0<=n/\n<=1048576):W (Int.tdiv (W (n - 1)) 2)=(n+1) / 2 - 1\/n=0/\W (Int.tdiv (W (n - 1)) 2)=0:=by
 by_cases h0:n=0
 ·subst h0;right;exact⟨rfl,by decide⟩
 ·left
  rw [aS (n:=n - 1) (by omega) (by omega),Int.tdiv_eq_ediv_of_nonneg (by omega),aS (by omega) (by omega)]
  omega
end Go.Proofs.YtkdfcbmcgnaicaaGreat
namespace Go.Proofs.YtkdfcbmcgnaicaaGreat
open Go.Proofs Go.Aw Go.RowKit
set_option maxRecDepth 100000
noncomputable def qS:Code:=(aM [1,1,1,1,1] [] (aL Tryz.f110) []).1
noncomputable def qT:List K:=(aM [1,1,1,1,1] [] (aL Tryz.f110) []).2
def oR (a0:List Int)(a0_o:Nat)(a0_n:Nat)(a1:Int)(a2:Int)(a3:eP×Int)(v4c:List SV)(v4n:Nat)(v5:Int):LS:=⟨gD 60 [(0,(.s 0 (0+a0_o*1) a0_n 1)),(3,(.f 1000075 [(.a [(.p 1 0),(iv a3.2)])])),(8,(iv a1)),(9,(iv 0)),(12,(iv v5))],[(.live true true v4c),(.live false false [(.s 2 0 a3.1.1.length 10),(iv a3.1.2.1),(.s 0 0 v4n 1),(.s 3 0 a3.1.2.2.2.length 8)]),(.live false true (flat dC a3.1.1)),(.live false true (flat cB a3.1.2.2.2))]⟩
def fH (a0:List Int)(a0_o:Nat)(a0_n:Nat)(a1:Int)(a2:Int)(a3:eP×Int):List Int×Int->(List Int×Int)⊕(List Int)
 | (v4,v5) =>
  (bif (decide ((v5:Int)≥0)) then
   (.inl ((dD ((v4.set (a0_o+tN a1) (v4.getD (a0_o+tN (W (a1+v5))) dF)).set (a0_o+tN (W (a1+v5))) (v4.getD (a0_o+tN a1) dF)) a0_o a0_n 0 v5 a1 ((a3.1.1,a3.1.2.1,(((v4.set (a0_o+tN a1) (v4.getD (a0_o+tN (W (a1+v5))) dF)).set (a0_o+tN (W (a1+v5))) (v4.getD (a0_o+tN a1) dF)),a3.1.2.2.2)),a3.2)),(W (v5 - 1))))
  else
   (.inr v4))
noncomputable def qU:Code:=(aM [1,1,1,0,1] [] (aL Tryz.f110) []).1
noncomputable def qV:List K:=(aM [1,1,1,0,1] [] (aL Tryz.f110) []).2
def oS (a0:List Int)(a0_o:Nat)(a0_n:Nat)(a1:Int)(a2:Int)(a3:eP×Int)(v1c:List SV)(v1n:Nat)(v2:Int):LS:=⟨gD 60 [(0,(.s 0 (0+a0_o*1) a0_n 1)),(3,(.f 1000075 [(.a [(.p 1 0),(iv a3.2)])])),(8,(iv a1)),(9,(iv 0)),(10,(iv (W (a2 - a1)))),(11,(iv v2))],[(.live true true v1c),(.live false false [(.s 2 0 a3.1.1.length 10),(iv a3.1.2.1),(.s 0 0 v1n 1),(.s 3 0 a3.1.2.2.2.length 8)]),(.live false true (flat dC a3.1.1)),(.live false true (flat cB a3.1.2.2.2))]⟩
def fI (a0:List Int)(a0_o:Nat)(a0_n:Nat)(a1:Int)(a2:Int)(a3:eP×Int):List Int×Int->(List Int×Int)⊕(List Int)
 | (v1,v2) =>
  (bif (decide ((v2:Int)≥0)) then
   (.inl ((dD v1 a0_o a0_n v2 (W (a2 - a1)) a1 ((a3.1.1,a3.1.2.1,(v1,a3.1.2.2.2)),a3.2)),(W (v2 - 1))))
  else
   (.inr (aH (fH a0 a0_o a0_n a1 a2 a3) (tN ((W ((W (a2 - a1)) - 1))+1)+1) (v1,(W ((W (a2 - a1)) - 1))))))
theorem aEy (a0:List Int)(a0_o:Nat)(a0_n:Nat)(a1:Int)(a2:Int)(a3:eP×Int)(l0:a0.length<=2^63-1)(l3_1_1:a3.1.1.length<=2^63-1)(l3_1_2_2_1:a3.1.2.2.1.length<=2^63-1)(l3_1_2_2_2:a3.1.2.2.2.length<=2^63-1)(hw:a0_o+a0_n<=a0.length/\a0.length<=1048576)(hr:InR a3.1.1.length a0)(hab:0<=a1/\a1<=a2/\a2<=↑a0_n) {cx:Cx} (hcx:cx.base=4):∀(n:Nat) (v4:List Int) (v5:Int),(v4.length=a0.length)/\(InR a3.1.1.length v4)/\(-1<=v5)/\(v5 < a2 - a1)->tN (v5+1) < n->Aw.Good Tryz.prog none 9 (bodyPost Tryz.prog Tryz.f110 (RR cx (.t []) [] [(.live true true (flat c3 (aH (fH a0 a0_o a0_n a1 a2 a3) n (v4,v5)))),.un,.un,.un])) cx [] (.l qS n::qT) (oR a0 a0_o a0_n a1 a2 a3 (flat c3 v4) v4.length v5):=by
 intro n
 induction n with
 | zero=>intro v4 v5 hi hn;exact absurd hn (eI _)
 | succ n ih =>
  intro v4 v5 hi hn
  refine aR ?_
  have hw_0:W (a2 - a1)=a2 - a1:=(aS (n:=a2 - a1) (by omega) (by omega)).trans (by omega)
  have hw_1:W ((W (a2 - a1)) - 1)=a2 - a1 - 1:=(aS (n:=(W (a2 - a1)) - 1) (by omega) (by omega)).trans (by omega)
  have hw_2:W (v5 - 1)=v5 - 1:=(aS (n:=v5 - 1) (by omega) (by omega)).trans (by omega)
  have hw_3:W (a1+v5)=a1+v5:=(aS (n:=a1+v5) (by omega) (by omega)).trans (by omega)
  try obtain⟨hsd1,hsd2⟩:=(fun _=>hsd) h0
  try (have _:=h0;simp only [List.length_set] at hsd1)
  cases h0:(decide ((v5:Int)≥0)) with
  | true =>
   have q0:=cJ h0
   try have hsd:=(fun _=>aS7 (N:=a3.1.1.length) (l:=((v4.set (a0_o+tN a1) (v4.getD (a0_o+tN (W (a1+v5))) dF)).set (a0_o+tN (W (a1+v5))) (v4.getD (a0_o+tN a1) dF))) (o:=a0_o) (n:=a0_n) (lo:=0) (hi:=v5) (first:=a1) (c:=((a3.1.1,a3.1.2.1,(((v4.set (a0_o+tN a1) (v4.getD (a0_o+tN (W (a1+v5))) dF)).set (a0_o+tN (W (a1+v5))) (v4.getD (a0_o+tN a1) dF)),a3.1.2.2.2)),a3.2)) (by(try simp only [List.length_set]);omega) (by omega) (by omega) (by omega) (by first | exact hi.2.1 | exact InR.swap hi.2.1 (by omega) (by omega))) h0
   try obtain⟨hsd1,hsd2⟩:=(fun _=>hsd) h0
   try (have _:=h0;simp only [List.length_set] at hsd1)
   have e:=Eq.refl (fH a0 a0_o a0_n a1 a2 a3 (v4,v5));conv at e=>rhs;simp only [fH,h0,aT]
   rw [aI e]
   refine ba [.d h0,.i (W (a1+v5)) a0_n,cQ aF v4 a0_o (W (a1+v5)) 0 1,.i a1 a0_n,cQ aF v4 a0_o a1 0 1,.i a1 a0_n,.p (show((0+a0_o*1+tN a1*1)+1<=(flat c3 v4).length) from(aX aF (by first | omega | (simp only [Lt];omega)) (o:=0) (Nb rfl))),.i (W (a1+v5)) a0_n,.p (show((0+a0_o*1+tN (W (a1+v5))*1)+1<=(splice (flat c3 v4) (0+a0_o*1+tN a1*1) [(iv (v4.getD (a0_o+tN (W (a1+v5))) dF))]).length) from(by rw [show(splice (flat c3 v4) (0+a0_o*1+tN a1*1) [(iv (v4.getD (a0_o+tN (W (a1+v5))) dF))])=flat c3 (v4.set (a0_o+tN a1) (v4.getD (a0_o+tN (W (a1+v5))) dF)) from(aP aF (by first | omega | (simp only [Lt];omega)) (o:=0) (d:=dF) (Nb rfl) rfl)];exact aX aF (by first | omega | (simp only [Lt];omega)) (o:=0) (Nb rfl))),.c [0,1,2,3] (by have q:=(aBk ((v4.set (a0_o+tN a1) (v4.getD (a0_o+tN (W (a1+v5))) dF)).set (a0_o+tN (W (a1+v5))) (v4.getD (a0_o+tN a1) dF)) a0_o a0_n 0 v5 a1 ((a3.1.1,a3.1.2.1,(((v4.set (a0_o+tN a1) (v4.getD (a0_o+tN (W (a1+v5))) dF)).set (a0_o+tN (W (a1+v5))) (v4.getD (a0_o+tN a1) dF)),a3.1.2.2.2)),a3.2) (by omega) (by omega) (by(try simp only [Lt]);omega) (by omega) (by omega) (by first | exact hi.2.1 | exact InR.swap hi.2.1 (by omega) (by omega)) (by omega));(try dsimp only at q);rw [show flat c3 ((v4.set (a0_o+tN a1) (v4.getD (a0_o+tN (W (a1+v5))) dF)).set (a0_o+tN (W (a1+v5))) (v4.getD (a0_o+tN a1) dF))=(splice (splice (flat c3 v4) (0+a0_o*1+tN a1*1) [(iv (v4.getD (a0_o+tN (W (a1+v5))) dF))]) (0+a0_o*1+tN (W (a1+v5))*1) [(iv (v4.getD (a0_o+tN a1) dF))]) from Eq.symm (by rw [show(splice (flat c3 v4) (0+a0_o*1+tN a1*1) [(iv (v4.getD (a0_o+tN (W (a1+v5))) dF))])=flat c3 (v4.set (a0_o+tN a1) (v4.getD (a0_o+tN (W (a1+v5))) dF)) from(aP aF (by first | omega | (simp only [Lt];omega)) (o:=0) (d:=dF) (Nb rfl) rfl)];exact aP aF (by first | omega | (simp only [Lt];omega)) (o:=0) (d:=dF) (Nb rfl) rfl)] at q;(try rw [show List.length (α:=Int) ((v4.set (a0_o+tN a1) (v4.getD (a0_o+tN (W (a1+v5))) dF)).set (a0_o+tN (W (a1+v5))) (v4.getD (a0_o+tN a1) dF))=v4.length from by first | simp;done | omega] at q);exact q)] [] [0,3,8,9,12] [] hcx (m:=n) qS (qT) (oR a0 a0_o a0_n a1 a2 a3 (flat c3 (dD ((v4.set (a0_o+tN a1) (v4.getD (a0_o+tN (W (a1+v5))) dF)).set (a0_o+tN (W (a1+v5))) (v4.getD (a0_o+tN a1) dF)) a0_o a0_n 0 v5 a1 ((a3.1.1,a3.1.2.1,(((v4.set (a0_o+tN a1) (v4.getD (a0_o+tN (W (a1+v5))) dF)).set (a0_o+tN (W (a1+v5))) (v4.getD (a0_o+tN a1) dF)),a3.1.2.2.2)),a3.2))) (v4.length) (W (v5 - 1))) (by kernel_rfl) ?_
   have z0:v4.length=(dD ((v4.set (a0_o+tN a1) (v4.getD (a0_o+tN (W (a1+v5))) dF)).set (a0_o+tN (W (a1+v5))) (v4.getD (a0_o+tN a1) dF)) a0_o a0_n 0 v5 a1 ((a3.1.1,a3.1.2.1,(((v4.set (a0_o+tN a1) (v4.getD (a0_o+tN (W (a1+v5))) dF)).set (a0_o+tN (W (a1+v5))) (v4.getD (a0_o+tN a1) dF)),a3.1.2.2.2)),a3.2)).length:=by first | omega | (simp;done)
   rw [z0]
   exact ih (dD ((v4.set (a0_o+tN a1) (v4.getD (a0_o+tN (W (a1+v5))) dF)).set (a0_o+tN (W (a1+v5))) (v4.getD (a0_o+tN a1) dF)) a0_o a0_n 0 v5 a1 ((a3.1.1,a3.1.2.1,(((v4.set (a0_o+tN a1) (v4.getD (a0_o+tN (W (a1+v5))) dF)).set (a0_o+tN (W (a1+v5))) (v4.getD (a0_o+tN a1) dF)),a3.1.2.2.2)),a3.2)) (W (v5 - 1)) (by and_intros<;>(try simp only [Lt])<;>first | omega | assumption | exact hi.2.1 | exact hi.2.2.1 | exact InR.swap hi.2.1 (by omega) (by omega) | exact InR.swap hr (by omega) (by omega) | exact hsd2 | (rw [hsd1];omega)) (by omega)
  | false =>
   have q0:=cN h0
   try obtain⟨hsd1,hsd2⟩:=(fun _=>hsd) h0
   try (have _:=h0;simp only [List.length_set] at hsd1)
   have e:=Eq.refl (fH a0 a0_o a0_n a1 a2 a3 (v4,v5));conv at e=>rhs;simp only [fH,h0,aT]
   rw [aJ,e]
   try dsimp only [bA]
   try dsimp only
   exact rtn [.d h0] [] [0] [] hcx (by kernel_rfl)
theorem aEz (a0:List Int)(a0_o:Nat)(a0_n:Nat)(a1:Int)(a2:Int)(a3:eP×Int)(l0:a0.length<=2^63-1)(l3_1_1:a3.1.1.length<=2^63-1)(l3_1_2_2_1:a3.1.2.2.1.length<=2^63-1)(l3_1_2_2_2:a3.1.2.2.2.length<=2^63-1)(hw:a0_o+a0_n<=a0.length/\a0.length<=1048576)(hr:InR a3.1.1.length a0)(hab:0<=a1/\a1<=a2/\a2<=↑a0_n) {cx:Cx} (hcx:cx.base=4):∀(n:Nat) (v1:List Int) (v2:Int),(v1.length=a0.length)/\(InR a3.1.1.length v1)/\(-1<=v2)/\(v2<=a2 - a1)->tN (v2+1) < n->Aw.Good Tryz.prog none 9 (bodyPost Tryz.prog Tryz.f110 (RR cx (.t []) [] [(.live true true (flat c3 (aH (fI a0 a0_o a0_n a1 a2 a3) n (v1,v2)))),.un,.un,.un])) cx [] (.l qU n::qV) (oS a0 a0_o a0_n a1 a2 a3 (flat c3 v1) v1.length v2):=by
 intro n
 induction n with
 | zero=>intro v1 v2 hi hn;exact absurd hn (eI _)
 | succ n ih =>
  intro v1 v2 hi hn
  refine aR ?_
  have hw_0:W (a2 - a1)=a2 - a1:=(aS (n:=a2 - a1) (by omega) (by omega)).trans (by omega)
  have hw_1:W ((W (a2 - a1)) - 1)=a2 - a1 - 1:=(aS (n:=(W (a2 - a1)) - 1) (by omega) (by omega)).trans (by omega)
  have hw_2:W (v2 - 1)=v2 - 1:=(aS (n:=v2 - 1) (by omega) (by omega)).trans (by omega)
  try obtain⟨hsd1,hsd2⟩:=(fun _=>hsd) h0
  try (have _:=h0;simp only [List.length_set] at hsd1)
  cases h0:(decide ((v2:Int)≥0)) with
  | true =>
   have q0:=cJ h0
   try have hsd:=(fun _=>aS7 (N:=a3.1.1.length) (l:=v1) (o:=a0_o) (n:=a0_n) (lo:=v2) (hi:=(W (a2 - a1))) (first:=a1) (c:=((a3.1.1,a3.1.2.1,(v1,a3.1.2.2.2)),a3.2)) (by omega) (by omega) (by omega) (by omega) (by first | exact hi.2.1 | exact InR.swap hi.2.1 (by omega) (by omega))) h0
   try obtain⟨hsd1,hsd2⟩:=(fun _=>hsd) h0
   try (have _:=h0;simp only [List.length_set] at hsd1)
   have e:=Eq.refl (fI a0 a0_o a0_n a1 a2 a3 (v1,v2));conv at e=>rhs;simp only [fI,h0,aT]
   rw [aI e]
   refine ba [.d h0,.c [0,1,2,3] (aBk v1 a0_o a0_n v2 (W (a2 - a1)) a1 ((a3.1.1,a3.1.2.1,(v1,a3.1.2.2.2)),a3.2) (by omega) (by omega) (by(try simp only [Lt]);omega) (by omega) (by omega) (by first | exact hi.2.1 | exact InR.swap hi.2.1 (by omega) (by omega)) (by omega))] [] [0,3,8,9,10,11] [] hcx (m:=n) qU (qV) (oS a0 a0_o a0_n a1 a2 a3 (flat c3 (dD v1 a0_o a0_n v2 (W (a2 - a1)) a1 ((a3.1.1,a3.1.2.1,(v1,a3.1.2.2.2)),a3.2))) (v1.length) (W (v2 - 1))) (by kernel_rfl) ?_
   have z0:v1.length=(dD v1 a0_o a0_n v2 (W (a2 - a1)) a1 ((a3.1.1,a3.1.2.1,(v1,a3.1.2.2.2)),a3.2)).length:=by first | omega | (simp;done)
   rw [z0]
   exact ih (dD v1 a0_o a0_n v2 (W (a2 - a1)) a1 ((a3.1.1,a3.1.2.1,(v1,a3.1.2.2.2)),a3.2)) (W (v2 - 1)) (by and_intros<;>(try simp only [Lt])<;>first | omega | assumption | exact hi.2.1 | exact hi.2.2.1 | exact InR.swap hi.2.1 (by omega) (by omega) | exact InR.swap hr (by omega) (by omega) | exact hsd2 | (rw [hsd1];omega)) (by omega)
  | false =>
   have q0:=cN h0
   try obtain⟨hsd1,hsd2⟩:=(fun _=>hsd) h0
   try (have _:=h0;simp only [List.length_set] at hsd1)
   have e:=Eq.refl (fI a0 a0_o a0_n a1 a2 a3 (v1,v2));conv at e=>rhs;simp only [fI,h0,aT]
   rw [aJ,e]
   refine en [.d h0] [] [0,3,8,9,12] [] hcx qS (qT) (oR a0 a0_o a0_n a1 a2 a3 (flat c3 v1) (v1.length) (W ((W (a2 - a1)) - 1))) (tN ((W ((W (a2 - a1)) - 1))+1)+1) (by kernel_rfl) ?_
   exact aEy a0 a0_o a0_n a1 a2 a3 l0 l3_1_1 l3_1_2_2_1 l3_1_2_2_2 hw hr hab hcx (tN ((W ((W (a2 - a1)) - 1))+1)+1) v1 (W ((W (a2 - a1)) - 1)) (by and_intros<;>(try simp only [Lt])<;>first | omega | assumption | exact hi.2.1 | exact hi.2.2.1 | exact InR.swap hi.2.1 (by omega) (by omega) | exact InR.swap hr (by omega) (by omega) | exact hsd2 | (rw [hsd1];omega)) (by omega)
def hY (a0:List Int)(a0_o:Nat)(a0_n:Nat)(a1:Int)(a2:Int)(a3:eP×Int):List Int :=
 (aH (fI a0 a0_o a0_n a1 a2 a3) (tN ((W (Int.tdiv (W ((W (a2 - a1)) - 1)) 2))+1)+1) (a0,(W (Int.tdiv (W ((W (a2 - a1)) - 1)) 2))))
theorem aJd (a0:List Int)(a0_o:Nat)(a0_n:Nat)(a1:Int)(a2:Int)(a3:eP×Int)(l0:a0.length<=2^63-1)(l3_1_1:a3.1.1.length<=2^63-1)(l3_1_2_2_1:a3.1.2.2.1.length<=2^63-1)(l3_1_2_2_2:a3.1.2.2.2.length<=2^63-1)(hw:a0_o+a0_n<=a0.length/\a0.length<=1048576)(hr:InR a3.1.1.length a0)(hab:0<=a1/\a1<=a2/\a2<=↑a0_n):Con Tryz.prog 110 [(.s 0 (0+a0_o*1) a0_n 1),(iv a1),(iv a2),(.f 1000075 [(.a [(.p 1 0),(iv a3.2)])])] [(.live true true (flat c3 a0)),(.live false false [(.s 2 0 a3.1.1.length 10),(iv a3.1.2.1),(.s 0 0 a0.length 1),(.s 3 0 a3.1.2.2.2.length 8)]),(.live false true (flat dC a3.1.1)),(.live false true (flat cB a3.1.2.2.2))] (.t []) [] [(.live true true (flat c3 (hY a0 a0_o a0_n a1 a2 a3))),.un,.un,.un]:=by
 refine aY Tryz.func110 (by kernel_rfl) fun cx hcx=>?_
 have hw_0:W (a2 - a1)=a2 - a1:=(aS (n:=a2 - a1) (by omega) (by omega)).trans (by omega)
 have hw_1:W ((W (a2 - a1)) - 1)=a2 - a1 - 1:=(aS (n:=(W (a2 - a1)) - 1) (by omega) (by omega)).trans (by omega)
 have hw_m:=aOn (n:=a2 - a1) (by omega)
 rw [←hw_0] at hw_m
 have e:=Eq.refl (hY a0 a0_o a0_n a1 a2 a3);conv at e=>rhs;simp only [hY]
 rw [e]
 refine en [.p (show(2:Int)≠0 from by decide)] [] [0,3,8,9,10,11] [] hcx qU (qV) (oS a0 a0_o a0_n a1 a2 a3 (flat c3 a0) (a0.length) (W (Int.tdiv (W ((W (a2 - a1)) - 1)) 2))) (tN ((W (Int.tdiv (W ((W (a2 - a1)) - 1)) 2))+1)+1) (by kernel_rfl) ?_
 exact aEz a0 a0_o a0_n a1 a2 a3 l0 l3_1_1 l3_1_2_2_1 l3_1_2_2_2 hw hr hab hcx (tN ((W (Int.tdiv (W ((W (a2 - a1)) - 1)) 2))+1)+1) a0 (W (Int.tdiv (W ((W (a2 - a1)) - 1)) 2)) (by and_intros<;>(try simp only [Lt])<;>first | omega | assumption | exact hi.2.1 | exact hi.2.2.1 | exact InR.swap hi.2.1 (by omega) (by omega) | exact InR.swap hr (by omega) (by omega) | exact hsd2 | (rw [hsd1];omega)) (by omega)
theorem aHa (a0:List Int)(o n:Nat)(a1 a2 a3:Int)(c:rG) :
 ((aU a0 o n a1 a2 a3 c).1=a1/\(aU a0 o n a1 a2 a3 c).2.1=a2)\/((aU a0 o n a1 a2 a3 c).1=a2/\(aU a0 o n a1 a2 a3 c).2.1=a1):=by
 unfold aU
 rw [Bool.cond_eq_ite]
 split
 ·exact .inr ⟨rfl,rfl⟩
 ·exact .inl ⟨rfl,rfl⟩
theorem aOo (a0 v:List Int)(o n:Nat)(a1 a2 a3:Int)(c:rG):aU a0 o n a1 a2 a3 ((c.1.1,c.1.2.1,(v,c.1.2.2.2)),c.2)=aU a0 o n a1 a2 a3 c:=rfl
def dP (a0:List Int)(a0_o:Nat)(a0_n:Nat)(a1:Int)(a2:Int)(a3:Int)(a4:Int)(a5:eP×Int):Int×Int :=
 ((aU a0 a0_o a0_n (aU a0 a0_o a0_n a1 a2 a4 ((a5.1.1,a5.1.2.1,(a0,a5.1.2.2.2)),a5.2)).1 (aU a0 a0_o a0_n (aU a0 a0_o a0_n a1 a2 a4 ((a5.1.1,a5.1.2.1,(a0,a5.1.2.2.2)),a5.2)).2.1 a3 (aU a0 a0_o a0_n a1 a2 a4 ((a5.1.1,a5.1.2.1,(a0,a5.1.2.2.2)),a5.2)).2.2 ((a5.1.1,a5.1.2.1,(a0,a5.1.2.2.2)),a5.2)).1 (aU a0 a0_o a0_n (aU a0 a0_o a0_n a1 a2 a4 ((a5.1.1,a5.1.2.1,(a0,a5.1.2.2.2)),a5.2)).2.1 a3 (aU a0 a0_o a0_n a1 a2 a4 ((a5.1.1,a5.1.2.1,(a0,a5.1.2.2.2)),a5.2)).2.2 ((a5.1.1,a5.1.2.1,(a0,a5.1.2.2.2)),a5.2)).2.2 ((a5.1.1,a5.1.2.1,(a0,a5.1.2.2.2)),a5.2)).2.1,(aU a0 a0_o a0_n (aU a0 a0_o a0_n a1 a2 a4 ((a5.1.1,a5.1.2.1,(a0,a5.1.2.2.2)),a5.2)).1 (aU a0 a0_o a0_n (aU a0 a0_o a0_n a1 a2 a4 ((a5.1.1,a5.1.2.1,(a0,a5.1.2.2.2)),a5.2)).2.1 a3 (aU a0 a0_o a0_n a1 a2 a4 ((a5.1.1,a5.1.2.1,(a0,a5.1.2.2.2)),a5.2)).2.2 ((a5.1.1,a5.1.2.1,(a0,a5.1.2.2.2)),a5.2)).1 (aU a0 a0_o a0_n (aU a0 a0_o a0_n a1 a2 a4 ((a5.1.1,a5.1.2.1,(a0,a5.1.2.2.2)),a5.2)).2.1 a3 (aU a0 a0_o a0_n a1 a2 a4 ((a5.1.1,a5.1.2.1,(a0,a5.1.2.2.2)),a5.2)).2.2 ((a5.1.1,a5.1.2.1,(a0,a5.1.2.2.2)),a5.2)).2.2 ((a5.1.1,a5.1.2.1,(a0,a5.1.2.2.2)),a5.2)).2.2)
theorem uH (a0:List Int)(a0_o:Nat)(a0_n:Nat)(a1:Int)(a2:Int)(a3:Int)(a4:Int)(a5:eP×Int)(l0:a0.length<=2^63-1)(l5_1_1:a5.1.1.length<=2^63-1)(l5_1_2_2_1:a5.1.2.2.1.length<=2^63-1)(l5_1_2_2_2:a5.1.2.2.2.length<=2^63-1)(hw:a0_o+a0_n<=a0.length/\a0.length<=1048576)(hr:InR a5.1.1.length a0)(hab:0<=a1/\a1 < ↑a0_n/\0<=a2/\a2 < ↑a0_n/\0<=a3/\a3 < ↑a0_n):Con Tryz.prog 132 [(.s 0 (0+a0_o*1) a0_n 1),(iv a1),(iv a2),(iv a3),(.p 1 0),(.f 1000075 [(.a [(.p 2 0),(iv a5.2)])])] [(.live false true (flat c3 a0)),(.live true false [(iv a4)]),(.live false false [(.s 3 0 a5.1.1.length 10),(iv a5.1.2.1),(.s 0 0 a0.length 1),(.s 4 0 a5.1.2.2.2.length 8)]),(.live false true (flat dC a5.1.1)),(.live false true (flat cB a5.1.2.2.2))] (iv (dP a0 a0_o a0_n a1 a2 a3 a4 a5).1) [] [.un,(.live true false [(iv (dP a0 a0_o a0_n a1 a2 a3 a4 a5).2)]),.un,.un,.un]:=by
 refine aY Tryz.func132 (by kernel_rfl) fun cx hcx=>?_
 have ho1:=aHa a0 a0_o a0_n a1 a2 a4 ((a5.1.1,a5.1.2.1,(a0,a5.1.2.2.2)),a5.2)
 have ho2:=aHa a0 a0_o a0_n (aU a0 a0_o a0_n a1 a2 a4 ((a5.1.1,a5.1.2.1,(a0,a5.1.2.2.2)),a5.2)).2.1 a3 (aU a0 a0_o a0_n a1 a2 a4 ((a5.1.1,a5.1.2.1,(a0,a5.1.2.2.2)),a5.2)).2.2 ((a5.1.1,a5.1.2.1,(a0,a5.1.2.2.2)),a5.2)
 have e:=Eq.refl (dP a0 a0_o a0_n a1 a2 a3 a4 a5);conv at e=>rhs;simp only [dP]
 rw [e]
 try dsimp only [bA]
 try dsimp only
 exact wW [.c [0,1,2,3,4] (uG a0 a0_o a0_n a1 a2 a4 ((a5.1.1,a5.1.2.1,(a0,a5.1.2.2.2)),a5.2) (by omega) (by omega) (by omega) (by omega) (by omega) (by omega) (by omega)),.c [0,1,2,3,4] (uG a0 a0_o a0_n (aU a0 a0_o a0_n a1 a2 a4 ((a5.1.1,a5.1.2.1,(a0,a5.1.2.2.2)),a5.2)).2.1 a3 (aU a0 a0_o a0_n a1 a2 a4 ((a5.1.1,a5.1.2.1,(a0,a5.1.2.2.2)),a5.2)).2.2 ((a5.1.1,a5.1.2.1,(a0,a5.1.2.2.2)),a5.2) (by omega) (by omega) (by omega) (by omega) (by omega) (by omega) (by omega)),.c [0,1,2,3,4] (uG a0 a0_o a0_n (aU a0 a0_o a0_n a1 a2 a4 ((a5.1.1,a5.1.2.1,(a0,a5.1.2.2.2)),a5.2)).1 (aU a0 a0_o a0_n (aU a0 a0_o a0_n a1 a2 a4 ((a5.1.1,a5.1.2.1,(a0,a5.1.2.2.2)),a5.2)).2.1 a3 (aU a0 a0_o a0_n a1 a2 a4 ((a5.1.1,a5.1.2.1,(a0,a5.1.2.2.2)),a5.2)).2.2 ((a5.1.1,a5.1.2.1,(a0,a5.1.2.2.2)),a5.2)).1 (aU a0 a0_o a0_n (aU a0 a0_o a0_n a1 a2 a4 ((a5.1.1,a5.1.2.1,(a0,a5.1.2.2.2)),a5.2)).2.1 a3 (aU a0 a0_o a0_n a1 a2 a4 ((a5.1.1,a5.1.2.1,(a0,a5.1.2.2.2)),a5.2)).2.2 ((a5.1.1,a5.1.2.1,(a0,a5.1.2.2.2)),a5.2)).2.2 ((a5.1.1,a5.1.2.1,(a0,a5.1.2.2.2)),a5.2) (by omega) (by omega) (by omega) (by omega) (by omega) (by omega) (by omega))] [] [1] [] hcx (by kernel_rfl)
def dQ (a0:List Int)(a0_o:Nat)(a0_n:Nat)(a1:Int)(a2:Int)(a3:eP×Int):Int×Int :=
 ((dP a0 a0_o a0_n (W (a1 - 1)) a1 (W (a1+1)) a2 ((a3.1.1,a3.1.2.1,(a0,a3.1.2.2.2)),a3.2)).1,(dP a0 a0_o a0_n (W (a1 - 1)) a1 (W (a1+1)) a2 ((a3.1.1,a3.1.2.1,(a0,a3.1.2.2.2)),a3.2)).2)
theorem uI (a0:List Int)(a0_o:Nat)(a0_n:Nat)(a1:Int)(a2:Int)(a3:eP×Int)(l0:a0.length<=2^63-1)(l3_1_1:a3.1.1.length<=2^63-1)(l3_1_2_2_1:a3.1.2.2.1.length<=2^63-1)(l3_1_2_2_2:a3.1.2.2.2.length<=2^63-1)(hw:a0_o+a0_n<=a0.length/\a0.length<=1048576)(hr:InR a3.1.1.length a0)(hab:1<=a1/\a1+1 < ↑a0_n):Con Tryz.prog 131 [(.s 0 (0+a0_o*1) a0_n 1),(iv a1),(.p 1 0),(.f 1000075 [(.a [(.p 2 0),(iv a3.2)])])] [(.live false true (flat c3 a0)),(.live true false [(iv a2)]),(.live false false [(.s 3 0 a3.1.1.length 10),(iv a3.1.2.1),(.s 0 0 a0.length 1),(.s 4 0 a3.1.2.2.2.length 8)]),(.live false true (flat dC a3.1.1)),(.live false true (flat cB a3.1.2.2.2))] (iv (dQ a0 a0_o a0_n a1 a2 a3).1) [] [.un,(.live true false [(iv (dQ a0 a0_o a0_n a1 a2 a3).2)]),.un,.un,.un]:=by
 refine aY Tryz.func131 (by kernel_rfl) fun cx hcx=>?_
 have hw_0:W (a1 - 1)=a1 - 1:=(aS (n:=a1 - 1) (by omega) (by omega)).trans (by omega)
 have hw_1:W (a1+1)=a1+1:=(aS (n:=a1+1) (by omega) (by omega)).trans (by omega)
 have e:=Eq.refl (dQ a0 a0_o a0_n a1 a2 a3);conv at e=>rhs;simp only [dQ]
 rw [e]
 try dsimp only [bA]
 try dsimp only
 exact wW [.c [0,1,2,3,4] (uH a0 a0_o a0_n (W (a1 - 1)) a1 (W (a1+1)) a2 ((a3.1.1,a3.1.2.1,(a0,a3.1.2.2.2)),a3.2) (by omega) (by omega) (by omega) (by omega) (by omega) (by omega) (by omega))] [] [1] [] hcx (by kernel_rfl)
theorem aVx (a0:List Int)(o n:Nat)(a1 a2 a3 s:Int)(c:rG):(dP a0 o n a1 a2 a3 s c).1=a1\/(dP a0 o n a1 a2 a3 s c).1=a2\/(dP a0 o n a1 a2 a3 s c).1=a3:=by
 unfold dP
 dsimp only
 simp only [aOo]
 rcases aHa a0 o n a1 a2 s c with⟨h1,h2⟩ | ⟨h1,h2⟩<;>rcases aHa a0 o n (aU a0 o n a1 a2 s c).2.1 a3 (aU a0 o n a1 a2 s c).2.2 c with⟨g1,g2⟩ | ⟨g1,g2⟩ <;>
  rcases aHa a0 o n (aU a0 o n a1 a2 s c).1 (aU a0 o n (aU a0 o n a1 a2 s c).2.1 a3 (aU a0 o n a1 a2 s c).2.2 c).1 (aU a0 o n (aU a0 o n a1 a2 s c).2.1 a3 (aU a0 o n a1 a2 s c).2.2 c).2.2 c with⟨k1,k2⟩ | ⟨k1,k2⟩<;>rw [k2]<;>simp_all
theorem aVy (a0:List Int)(o n:Nat)(a1 s:Int)(c:rG):(dQ a0 o n a1 s c).1=W (a1 - 1)\/(dQ a0 o n a1 s c).1=a1\/(dQ a0 o n a1 s c).1=W (a1+1):=aVx _ _ _ _ _ _ _ _
theorem aDb {x:Int} (h:0<=x/\x<=1048576):W (Int.tdiv x 4)=x / 4:=by rw [Int.tdiv_eq_ediv_of_nonneg h.1,aS (by omega) (by omega)]
theorem eM {a0:List Int} {o n:Nat} {a1 s:Int} {c:rG} (h:1<=a1/\a1+1 < (n:Int)/\(n:Int)<=1048576):0<=(dQ a0 o n a1 s c).1/\(dQ a0 o n a1 s c).1 < n:=by
 have hm:=aVy a0 o n a1 s c
 rw [aS (n:=a1 - 1) (by omega) (by omega),aS (n:=a1+1) (by omega) (by omega)] at hm
 omega
def bH (a0:List Int)(a0_o:Nat)(a0_n:Nat)(a1:Int)(a2:Int)(a3:eP×Int):=(dQ a0 a0_o a0_n (W (a1+(W ((W (Int.tdiv (W (a2 - a1)) 4))*1)))) 0 ((a3.1.1,a3.1.2.1,(a0,a3.1.2.2.2)),a3.2))
def bI (a0:List Int)(a0_o:Nat)(a0_n:Nat)(a1:Int)(a2:Int)(a3:eP×Int):=(dQ a0 a0_o a0_n (W (a1+(W ((W (Int.tdiv (W (a2 - a1)) 4))*2)))) (bH a0 a0_o a0_n a1 a2 a3).2 ((a3.1.1,a3.1.2.1,(a0,a3.1.2.2.2)),a3.2))
def bJ (a0:List Int)(a0_o:Nat)(a0_n:Nat)(a1:Int)(a2:Int)(a3:eP×Int):=(dQ a0 a0_o a0_n (W (a1+(W ((W (Int.tdiv (W (a2 - a1)) 4))*3)))) (bI a0 a0_o a0_n a1 a2 a3).2 ((a3.1.1,a3.1.2.1,(a0,a3.1.2.2.2)),a3.2))
def gG (a0:List Int)(a0_o:Nat)(a0_n:Nat)(a1:Int)(a2:Int)(a3:eP×Int):=(dP a0 a0_o a0_n (bH a0 a0_o a0_n a1 a2 a3).1 (bI a0 a0_o a0_n a1 a2 a3).1 (bJ a0 a0_o a0_n a1 a2 a3).1 (bJ a0 a0_o a0_n a1 a2 a3).2 ((a3.1.1,a3.1.2.1,(a0,a3.1.2.2.2)),a3.2))
def gH (a0:List Int)(a0_o:Nat)(a0_n:Nat)(a1:Int)(a2:Int)(a3:eP×Int):=(dP a0 a0_o a0_n (W (a1+(W ((W (Int.tdiv (W (a2 - a1)) 4))*1)))) (W (a1+(W ((W (Int.tdiv (W (a2 - a1)) 4))*2)))) (W (a1+(W ((W (Int.tdiv (W (a2 - a1)) 4))*3)))) 0 ((a3.1.1,a3.1.2.1,(a0,a3.1.2.2.2)),a3.2))
def bD (a0:List Int)(a0_o:Nat)(a0_n:Nat)(a1:Int)(a2:Int)(a3:eP×Int):Int×Int :=
 (bif (decide (((W (a2 - a1)):Int)≥8)) then
  (bif (decide (((W (a2 - a1)):Int)≥50)) then
   (bif (((gG a0 a0_o a0_n a1 a2 a3).2:Int) == 0) then
    ((gG a0 a0_o a0_n a1 a2 a3).1,1)
   else
    (bif (((gG a0 a0_o a0_n a1 a2 a3).2:Int) == 12) then
     ((gG a0 a0_o a0_n a1 a2 a3).1,2)
    else
     ((gG a0 a0_o a0_n a1 a2 a3).1,0)))
  else
   (bif (((gH a0 a0_o a0_n a1 a2 a3).2:Int) == 0) then
    ((gH a0 a0_o a0_n a1 a2 a3).1,1)
   else
    (bif (((gH a0 a0_o a0_n a1 a2 a3).2:Int) == 12) then
     ((gH a0 a0_o a0_n a1 a2 a3).1,2)
    else
     ((gH a0 a0_o a0_n a1 a2 a3).1,0))))
 else
  ((W (a1+(W ((W (Int.tdiv (W (a2 - a1)) 4))*2)))),1))
theorem aJe (a0:List Int)(a0_o:Nat)(a0_n:Nat)(a1:Int)(a2:Int)(a3:eP×Int)(l0:a0.length<=2^63-1)(l3_1_1:a3.1.1.length<=2^63-1)(l3_1_2_2_1:a3.1.2.2.1.length<=2^63-1)(l3_1_2_2_2:a3.1.2.2.2.length<=2^63-1)(hw:a0_o+a0_n<=a0.length/\a0.length<=1048576)(hr:InR a3.1.1.length a0)(hab:0<=a1/\a1 < a2/\a2<=↑a0_n):Con Tryz.prog 112 [(.s 0 (0+a0_o*1) a0_n 1),(iv a1),(iv a2),(.f 1000075 [(.a [(.p 1 0),(iv a3.2)])])] [(.live false true (flat c3 a0)),(.live false false [(.s 2 0 a3.1.1.length 10),(iv a3.1.2.1),(.s 0 0 a0.length 1),(.s 3 0 a3.1.2.2.2.length 8)]),(.live false true (flat dC a3.1.1)),(.live false true (flat cB a3.1.2.2.2))] (.t (k2 (bD a0 a0_o a0_n a1 a2 a3))) []:=by
 refine aY Tryz.func112 (by kernel_rfl) fun cx hcx=>?_
 have hw_0:W (a2 - a1)=a2 - a1:=(aS (n:=a2 - a1) (by omega) (by omega)).trans (by omega)
 have hq4:=aDb (x:=W (a2 - a1)) (by omega)
 have hc_1:(W (a1+(W ((W (Int.tdiv (W (a2 - a1)) 4))*1))))=a1+(a2 - a1) / 4*1:=by rw [hq4,hw_0];exact(aS (by rw [aS (by omega) (by omega)];omega) (by rw [aS (by omega) (by omega)];omega)).trans (by rw [aS (by omega) (by omega)])
 have hc_2:(W (a1+(W ((W (Int.tdiv (W (a2 - a1)) 4))*2))))=a1+(a2 - a1) / 4*2:=by rw [hq4,hw_0];exact(aS (by rw [aS (by omega) (by omega)];omega) (by rw [aS (by omega) (by omega)];omega)).trans (by rw [aS (by omega) (by omega)])
 have hc_3:(W (a1+(W ((W (Int.tdiv (W (a2 - a1)) 4))*3))))=a1+(a2 - a1) / 4*3:=by rw [hq4,hw_0];exact(aS (by rw [aS (by omega) (by omega)];omega) (by rw [aS (by omega) (by omega)];omega)).trans (by rw [aS (by omega) (by omega)])
 let t0:List (St Tryz.prog):=[.p (show(4:Int)≠0 from by decide),.p (show(4:Int)≠0 from by decide),.p (show(4:Int)≠0 from by decide)]
 cases h0:(decide (((W (a2 - a1)):Int)≥8)) with
 | true =>
  have q0:=cJ h0
  let t1:List (St Tryz.prog):=(t0++[.d h0])
  cases h1:(decide (((W (a2 - a1)):Int)≥50)) with
  | true =>
   have q1:=cJ h1
   try have hb1:0<=(bH a0 a0_o a0_n a1 a2 a3).1/\(bH a0 a0_o a0_n a1 a2 a3).1 < ↑a0_n:=(fun _=>eM (by omega)) h1
   try have hb2:0<=(bI a0 a0_o a0_n a1 a2 a3).1/\(bI a0 a0_o a0_n a1 a2 a3).1 < ↑a0_n:=(fun _=>eM (by omega)) h1
   try have hb3:0<=(bJ a0 a0_o a0_n a1 a2 a3).1/\(bJ a0 a0_o a0_n a1 a2 a3).1 < ↑a0_n:=(fun _=>eM (by omega)) h1
   let t2:List (St Tryz.prog):=(t1++[.d h1,.c [0,4,1,2,3] (uI a0 a0_o a0_n (W (a1+(W ((W (Int.tdiv (W (a2 - a1)) 4))*1)))) 0 ((a3.1.1,a3.1.2.1,(a0,a3.1.2.2.2)),a3.2) (by omega) (by omega) (by omega) (by omega) (by omega) (by omega) (by omega)),.c [0,4,1,2,3] (uI a0 a0_o a0_n (W (a1+(W ((W (Int.tdiv (W (a2 - a1)) 4))*2)))) (bH a0 a0_o a0_n a1 a2 a3).2 ((a3.1.1,a3.1.2.1,(a0,a3.1.2.2.2)),a3.2) (by omega) (by omega) (by omega) (by omega) (by omega) (by omega) (by omega)),.c [0,4,1,2,3] (uI a0 a0_o a0_n (W (a1+(W ((W (Int.tdiv (W (a2 - a1)) 4))*3)))) (bI a0 a0_o a0_n a1 a2 a3).2 ((a3.1.1,a3.1.2.1,(a0,a3.1.2.2.2)),a3.2) (by omega) (by omega) (by omega) (by omega) (by omega) (by omega) (by omega)),.c [0,4,1,2,3] (uH a0 a0_o a0_n (bH a0 a0_o a0_n a1 a2 a3).1 (bI a0 a0_o a0_n a1 a2 a3).1 (bJ a0 a0_o a0_n a1 a2 a3).1 (bJ a0 a0_o a0_n a1 a2 a3).2 ((a3.1.1,a3.1.2.1,(a0,a3.1.2.2.2)),a3.2) (by omega) (by omega) (by omega) (by omega) (by omega) (by omega) (by omega))])
   cases h2:(((gG a0 a0_o a0_n a1 a2 a3).2:Int) == 0) with
   | true =>
    have q2:=eq_of_beq h2
    try have hb1:0<=(bH a0 a0_o a0_n a1 a2 a3).1/\(bH a0 a0_o a0_n a1 a2 a3).1 < ↑a0_n:=(fun _=>eM (by omega)) h1
    try have hb2:0<=(bI a0 a0_o a0_n a1 a2 a3).1/\(bI a0 a0_o a0_n a1 a2 a3).1 < ↑a0_n:=(fun _=>eM (by omega)) h1
    try have hb3:0<=(bJ a0 a0_o a0_n a1 a2 a3).1/\(bJ a0 a0_o a0_n a1 a2 a3).1 < ↑a0_n:=(fun _=>eM (by omega)) h1
    have e:=Eq.refl (bD a0 a0_o a0_n a1 a2 a3);conv at e=>rhs;simp only [bD,h0,h1,h2,aT]
    rw [e]
    exact rt (t2++[.d h2]) [] [] hcx (by kernel_rfl)
   | false =>
    have q2:=ne_of_beq_false h2
    try have hb1:0<=(bH a0 a0_o a0_n a1 a2 a3).1/\(bH a0 a0_o a0_n a1 a2 a3).1 < ↑a0_n:=(fun _=>eM (by omega)) h1
    try have hb2:0<=(bI a0 a0_o a0_n a1 a2 a3).1/\(bI a0 a0_o a0_n a1 a2 a3).1 < ↑a0_n:=(fun _=>eM (by omega)) h1
    try have hb3:0<=(bJ a0 a0_o a0_n a1 a2 a3).1/\(bJ a0 a0_o a0_n a1 a2 a3).1 < ↑a0_n:=(fun _=>eM (by omega)) h1
    let t3:List (St Tryz.prog):=(t2++[.d h2])
    cases h3:(((gG a0 a0_o a0_n a1 a2 a3).2:Int) == 12) with
    | true =>
     have q3:=eq_of_beq h3
     try have hb1:0<=(bH a0 a0_o a0_n a1 a2 a3).1/\(bH a0 a0_o a0_n a1 a2 a3).1 < ↑a0_n:=(fun _=>eM (by omega)) h1
     try have hb2:0<=(bI a0 a0_o a0_n a1 a2 a3).1/\(bI a0 a0_o a0_n a1 a2 a3).1 < ↑a0_n:=(fun _=>eM (by omega)) h1
     try have hb3:0<=(bJ a0 a0_o a0_n a1 a2 a3).1/\(bJ a0 a0_o a0_n a1 a2 a3).1 < ↑a0_n:=(fun _=>eM (by omega)) h1
     have e:=Eq.refl (bD a0 a0_o a0_n a1 a2 a3);conv at e=>rhs;simp only [bD,h0,h1,h2,h3,aT]
     rw [e]
     exact rt (t3++[.d h3]) [] [] hcx (by kernel_rfl)
    | false =>
     have q3:=ne_of_beq_false h3
     try have hb1:0<=(bH a0 a0_o a0_n a1 a2 a3).1/\(bH a0 a0_o a0_n a1 a2 a3).1 < ↑a0_n:=(fun _=>eM (by omega)) h1
     try have hb2:0<=(bI a0 a0_o a0_n a1 a2 a3).1/\(bI a0 a0_o a0_n a1 a2 a3).1 < ↑a0_n:=(fun _=>eM (by omega)) h1
     try have hb3:0<=(bJ a0 a0_o a0_n a1 a2 a3).1/\(bJ a0 a0_o a0_n a1 a2 a3).1 < ↑a0_n:=(fun _=>eM (by omega)) h1
     have e:=Eq.refl (bD a0 a0_o a0_n a1 a2 a3);conv at e=>rhs;simp only [bD,h0,h1,h2,h3,aT]
     rw [e]
     exact rt (t3++[.d h3]) [] [] hcx (by kernel_rfl)
  | false =>
   have q1:=cN h1
   try have hb1:0<=(bH a0 a0_o a0_n a1 a2 a3).1/\(bH a0 a0_o a0_n a1 a2 a3).1 < ↑a0_n:=(fun _=>eM (by omega)) h1
   try have hb2:0<=(bI a0 a0_o a0_n a1 a2 a3).1/\(bI a0 a0_o a0_n a1 a2 a3).1 < ↑a0_n:=(fun _=>eM (by omega)) h1
   try have hb3:0<=(bJ a0 a0_o a0_n a1 a2 a3).1/\(bJ a0 a0_o a0_n a1 a2 a3).1 < ↑a0_n:=(fun _=>eM (by omega)) h1
   let t2:List (St Tryz.prog):=(t1++[.d h1,.c [0,4,1,2,3] (uH a0 a0_o a0_n (W (a1+(W ((W (Int.tdiv (W (a2 - a1)) 4))*1)))) (W (a1+(W ((W (Int.tdiv (W (a2 - a1)) 4))*2)))) (W (a1+(W ((W (Int.tdiv (W (a2 - a1)) 4))*3)))) 0 ((a3.1.1,a3.1.2.1,(a0,a3.1.2.2.2)),a3.2) (by omega) (by omega) (by omega) (by omega) (by omega) (by omega) (by omega))])
   cases h2:(((gH a0 a0_o a0_n a1 a2 a3).2:Int) == 0) with
   | true =>
    have q2:=eq_of_beq h2
    try have hb1:0<=(bH a0 a0_o a0_n a1 a2 a3).1/\(bH a0 a0_o a0_n a1 a2 a3).1 < ↑a0_n:=(fun _=>eM (by omega)) h1
    try have hb2:0<=(bI a0 a0_o a0_n a1 a2 a3).1/\(bI a0 a0_o a0_n a1 a2 a3).1 < ↑a0_n:=(fun _=>eM (by omega)) h1
    try have hb3:0<=(bJ a0 a0_o a0_n a1 a2 a3).1/\(bJ a0 a0_o a0_n a1 a2 a3).1 < ↑a0_n:=(fun _=>eM (by omega)) h1
    have e:=Eq.refl (bD a0 a0_o a0_n a1 a2 a3);conv at e=>rhs;simp only [bD,h0,h1,h2,aT]
    rw [e]
    exact rt (t2++[.d h2]) [] [] hcx (by kernel_rfl)
   | false =>
    have q2:=ne_of_beq_false h2
    try have hb1:0<=(bH a0 a0_o a0_n a1 a2 a3).1/\(bH a0 a0_o a0_n a1 a2 a3).1 < ↑a0_n:=(fun _=>eM (by omega)) h1
    try have hb2:0<=(bI a0 a0_o a0_n a1 a2 a3).1/\(bI a0 a0_o a0_n a1 a2 a3).1 < ↑a0_n:=(fun _=>eM (by omega)) h1
    try have hb3:0<=(bJ a0 a0_o a0_n a1 a2 a3).1/\(bJ a0 a0_o a0_n a1 a2 a3).1 < ↑a0_n:=(fun _=>eM (by omega)) h1
    let t3:List (St Tryz.prog):=(t2++[.d h2])
    cases h3:(((gH a0 a0_o a0_n a1 a2 a3).2:Int) == 12) with
    | true =>
     have q3:=eq_of_beq h3
     try have hb1:0<=(bH a0 a0_o a0_n a1 a2 a3).1/\(bH a0 a0_o a0_n a1 a2 a3).1 < ↑a0_n:=(fun _=>eM (by omega)) h1
     try have hb2:0<=(bI a0 a0_o a0_n a1 a2 a3).1/\(bI a0 a0_o a0_n a1 a2 a3).1 < ↑a0_n:=(fun _=>eM (by omega)) h1
     try have hb3:0<=(bJ a0 a0_o a0_n a1 a2 a3).1/\(bJ a0 a0_o a0_n a1 a2 a3).1 < ↑a0_n:=(fun _=>eM (by omega)) h1
     have e:=Eq.refl (bD a0 a0_o a0_n a1 a2 a3);conv at e=>rhs;simp only [bD,h0,h1,h2,h3,aT]
     rw [e]
     exact rt (t3++[.d h3]) [] [] hcx (by kernel_rfl)
    | false =>
     have q3:=ne_of_beq_false h3
     try have hb1:0<=(bH a0 a0_o a0_n a1 a2 a3).1/\(bH a0 a0_o a0_n a1 a2 a3).1 < ↑a0_n:=(fun _=>eM (by omega)) h1
     try have hb2:0<=(bI a0 a0_o a0_n a1 a2 a3).1/\(bI a0 a0_o a0_n a1 a2 a3).1 < ↑a0_n:=(fun _=>eM (by omega)) h1
     try have hb3:0<=(bJ a0 a0_o a0_n a1 a2 a3).1/\(bJ a0 a0_o a0_n a1 a2 a3).1 < ↑a0_n:=(fun _=>eM (by omega)) h1
     have e:=Eq.refl (bD a0 a0_o a0_n a1 a2 a3);conv at e=>rhs;simp only [bD,h0,h1,h2,h3,aT]
     rw [e]
     exact rt (t3++[.d h3]) [] [] hcx (by kernel_rfl)
 | false =>
  have q0:=cN h0
  have e:=Eq.refl (bD a0 a0_o a0_n a1 a2 a3);conv at e=>rhs;simp only [bD,h0,aT]
  rw [e]
  exact rt (t0++[.d h0,.T]) [] [] hcx (by kernel_rfl)
def zB:Go.Shelf.Ren:=⟨fun | 15=>94 | 28=>117 | 29=>118 | n=>n,fun | 39=>125 | 3=>3 | 53=>140 | 55=>114 | 4=>4 | 5=>5 | 9=>9 | n=>n,fun | n=>n⟩
theorem aRf:Go.Proofs.SlLaysF0.n15 Tryz.prog zB:={
 mixed:=by kernel_rfl
 f15:=Tryz.func94.trans (congrArg some (by kernel_rfl))
 f28:=Tryz.func117.trans (congrArg some (by kernel_rfl))
 f29:=Tryz.func118.trans (congrArg some (by kernel_rfl))
 t3:=Tryz.underlying3
 a3:=Tryz.isAgg3
 z3:=Tryz.sizeOf3
 v3:=Tryz.zeroValue3
 t4:=Tryz.underlying4
 a4:=Tryz.isAgg4
 z4:=Tryz.sizeOf4
 v4:=Tryz.zeroValue4
 t5:=Tryz.underlying5
 a5:=Tryz.isAgg5
 z5:=Tryz.sizeOf5
 v5:=Tryz.zeroValue5
 t9:=Tryz.underlying9
 a9:=Tryz.isAgg9
 z9:=Tryz.sizeOf9
 v9:=Tryz.zeroValue9
 t39:=Tryz.underlying125
 a39:=Tryz.isAgg125
 z39:=Tryz.sizeOf125
 v39:=Tryz.zeroValue125
 t53:=Tryz.underlying140
 a53:=Tryz.isAgg140
 z53:=Tryz.sizeOf140
 v53:=Tryz.zeroValue140
 t55:=Tryz.underlying114
 a55:=Tryz.isAgg114
 z55:=Tryz.sizeOf114
 v55:=Tryz.zeroValue114 }
def F94 (n:Int):Int:=(Lib.bitLen n.toNat:Nat)
theorem C94 (a0:Int)(hn:0<=a0/\a0<=18446744073709551615):Con Tryz.prog 94 [.v (.int .u64 a0)] [] (iv (F94 a0)) []:=by
 refine⟨ent Tryz.func94 (by kernel_rfl) rfl,fun ρ W vs hr hb hpl hap hfz=>?_⟩
 match vs,hr with
 | [],hr=>simp [Rels] at hr
 | _::_::_,hr=>simp [Rels] at hr
 | [v1],hr =>
 simp only [Rels,and_true,Rel] at hr
 subst hr
 have h:=Any.bits_Len (SlLaysF0.n15.bits (ρ:=zB) aRf) a0 W hn.1 hn.2
 refine h.mono fun e w' ⟨he,hw⟩=>?_
 subst hw
 have un1:∀m j,gC m ([]:List BK) [] j=.un:=fun m j=>by unfold gC;simp
 exact⟨ρ,_,he,fun _ _=>rfl,by simp only [iv,Rel];rfl,Kept.refl _ _,fun j=>by rw [un1];trivial,fun j=>by rw [un1];trivial,fun i j b n b' n' _ o1=>by rw [un1] at o1;exact o1.elim,ρ.le_refl,fun b o hb=>⟨(hfz b o hb).1,fun j m o1=>by rw [un1] at o1;exact o1.elim,.inl hb⟩⟩
def eN (a0:Int):Int :=
 (IntKind.wrap .u64 (1*2 ^ (min (tN (F94 (IntKind.wrap .u64 a0))) 64)))
theorem aW8 (a0:Int)(hn:0<=a0/\a0<=1048576):Con Tryz.prog 129 [(iv a0)] [] (.v (.int .u64 (eN a0))) []:=by
 refine aY Tryz.func129 (by kernel_rfl) fun cx hcx=>?_
 have e:=Eq.refl (eN a0);conv at e=>rhs;simp only [eN]
 rw [e]
 exact rt [.c [] (C94 (IntKind.wrap .u64 a0)  (by rw [IntKind.wrap_u64];omega)),.p (show 0<=((F94 (IntKind.wrap .u64 a0)):Int) from by first | omega | exact Int.natCast_nonneg _)] [] [] hcx (by kernel_rfl)
def eE (a0:Int):Int×Int :=
 ((IntKind.wrap .u64 ((BitVec.ofInt 64 (IntKind.wrap .u64 ((BitVec.ofInt 64 (IntKind.wrap .u64 ((BitVec.ofInt 64 a0 ^^^ BitVec.ofInt 64 (IntKind.wrap .u64 (a0*2 ^ (min (tN 13) 64)))).toNat:Int)) ^^^ BitVec.ofInt 64 (Int.fdiv (IntKind.wrap .u64 ((BitVec.ofInt 64 a0 ^^^ BitVec.ofInt 64 (IntKind.wrap .u64 (a0*2 ^ (min (tN 13) 64)))).toNat:Int)) (2 ^ (min (tN 7) 64)))).toNat:Int)) ^^^ BitVec.ofInt 64 (IntKind.wrap .u64 ((IntKind.wrap .u64 ((BitVec.ofInt 64 (IntKind.wrap .u64 ((BitVec.ofInt 64 a0 ^^^ BitVec.ofInt 64 (IntKind.wrap .u64 (a0*2 ^ (min (tN 13) 64)))).toNat:Int)) ^^^ BitVec.ofInt 64 (Int.fdiv (IntKind.wrap .u64 ((BitVec.ofInt 64 a0 ^^^ BitVec.ofInt 64 (IntKind.wrap .u64 (a0*2 ^ (min (tN 13) 64)))).toNat:Int)) (2 ^ (min (tN 7) 64)))).toNat:Int))*2 ^ (min (tN 17) 64)))).toNat:Int)),(IntKind.wrap .u64 ((BitVec.ofInt 64 (IntKind.wrap .u64 ((BitVec.ofInt 64 (IntKind.wrap .u64 ((BitVec.ofInt 64 a0 ^^^ BitVec.ofInt 64 (IntKind.wrap .u64 (a0*2 ^ (min (tN 13) 64)))).toNat:Int)) ^^^ BitVec.ofInt 64 (Int.fdiv (IntKind.wrap .u64 ((BitVec.ofInt 64 a0 ^^^ BitVec.ofInt 64 (IntKind.wrap .u64 (a0*2 ^ (min (tN 13) 64)))).toNat:Int)) (2 ^ (min (tN 7) 64)))).toNat:Int)) ^^^ BitVec.ofInt 64 (IntKind.wrap .u64 ((IntKind.wrap .u64 ((BitVec.ofInt 64 (IntKind.wrap .u64 ((BitVec.ofInt 64 a0 ^^^ BitVec.ofInt 64 (IntKind.wrap .u64 (a0*2 ^ (min (tN 13) 64)))).toNat:Int)) ^^^ BitVec.ofInt 64 (Int.fdiv (IntKind.wrap .u64 ((BitVec.ofInt 64 a0 ^^^ BitVec.ofInt 64 (IntKind.wrap .u64 (a0*2 ^ (min (tN 13) 64)))).toNat:Int)) (2 ^ (min (tN 7) 64)))).toNat:Int))*2 ^ (min (tN 17) 64)))).toNat:Int)))
theorem aW9 (a0:Int):Con Tryz.prog 130 [(.p 0 0)] [(.live true false [(.v (.int .u64 a0))])] (.v (.int .u64 (eE a0).1)) [] [(.live true false [(.v (.int .u64 (eE a0).2))])]:=by
 refine aY Tryz.func130 (by kernel_rfl) fun cx hcx=>?_
 have e:=Eq.refl (eE a0);conv at e=>rhs;simp only [eE]
 rw [e]
 try dsimp only [bA]
 try dsimp only
 exact wW [.p (show 0<=(13:Int) from by decide),.p (show 0<=(7:Int) from by decide),.p (show 0<=(17:Int) from by decide)] [] [0] [] hcx (by kernel_rfl)
theorem aOp {n:Nat} (h:n<=1048576):eN (n:Int)=((1 <<< Go.Sort.bitsLen n:Nat):Int):=by
 unfold eN F94
 have hk:Go.Sort.bitsLen n<=62:=(Go.Sort.bitsLen_le_iff n 62).2 (by omega)
 rw [show IntKind.wrap .u64 (n:Int)=n by rw [IntKind.wrap_u64];omega,fZ,fZ,bitLen_eq _ (by omega),Nat.min_eq_left (by omega),Int.one_mul]
 exact wrap_two_pow _ hk
theorem aOq {n:Nat} (h1:1<=n)(h:n<=1048576):1<=1 <<< Go.Sort.bitsLen n/\1 <<< Go.Sort.bitsLen n<=2*n:=by
 have hp:1<=Go.Sort.bitsLen n:=by
  rcases Nat.eq_zero_or_pos (Go.Sort.bitsLen n) with h0 | h0
  ·have:=(Go.Sort.bitsLen_le_iff n 0).1 (by omega);omega
  ·exact h0
 have h2:¬n < 2 ^ (Go.Sort.bitsLen n - 1):=fun h3=>by
  have:=(Go.Sort.bitsLen_le_iff n (Go.Sort.bitsLen n - 1)).2 h3;omega
 rw [Nat.one_shiftLeft]
 obtain⟨k,hk⟩:∃k,Go.Sort.bitsLen n=k+1:=⟨Go.Sort.bitsLen n - 1,by omega⟩
 rw [hk] at h2 ⊢
 rw [show k+1 - 1=k by omega] at h2
 rw [Nat.pow_succ]
 have:1<=2 ^ k:=Nat.one_le_two_pow
 omega
def aMx (x M:Int):Int:=W (IntKind.wrap .u64 ((BitVec.ofInt 64 x &&& BitVec.ofInt 64 (IntKind.wrap .u64 (M - 1))).toNat:Int))
theorem aHb (x:Int) {M:Nat} (h:1<=M/\M<=1099511627776):aMx x (M:Int)=(((BitVec.ofInt 64 x).toNat &&& (M - 1):Nat):Int):=by
 unfold aMx
 have e:(BitVec.ofInt 64 (IntKind.wrap .u64 ((M:Int) - 1))).toNat=M - 1:=by
  rw [IntKind.wrap_u64,BitVec.toNat_ofInt];omega
 have hle:(BitVec.ofInt 64 x).toNat &&& (M - 1)<=M - 1:=Nat.and_le_right
 rw [BitVec.toNat_and,e,show IntKind.wrap .u64 ((((BitVec.ofInt 64 x).toNat &&& (M - 1):Nat)):Int)=(((BitVec.ofInt 64 x).toNat &&& (M - 1):Nat):Int) by rw [IntKind.wrap_u64];omega]
 exact aS (by omega) (by omega)
theorem aOr (x:Int) {n:Int} (h:1<=n/\n<=1048576):0<=aMx x (eN n)/\aMx x (eN n) < 2*n:=by
 obtain⟨n,rfl⟩:∃k:Nat,n=k:=⟨n.toNat,by omega⟩
 have h2:=aOq (n:=n) (by omega) (by omega)
 rw [aOp (by omega),aHb x ⟨h2.1,by omega⟩]
 have hle:(BitVec.ofInt 64 x).toNat &&& (1 <<< Go.Sort.bitsLen n - 1)<=1 <<< Go.Sort.bitsLen n - 1:=Nat.and_le_right
 omega
noncomputable def mS:Code:=(aM [1,1,0,1,1,1] [] (aL Tryz.f111) []).1
noncomputable def mT:List K:=(aM [1,1,0,1,1,1] [] (aL Tryz.f111) []).2
def lN (a0:List Int)(a0_o:Nat)(a0_n:Nat)(a1:Int)(a2:Int)(a3:eP×Int)(v1c:List SV)(v1n:Nat)(v2 v3:Int):LS:=⟨gD 67 [(0,(.s 0 (0+a0_o*1) a0_n 1)),(1,(iv a1)),(8,(iv (W (a2 - a1)))),(9,(.p 4 0)),(10,(.v (.int .u64 (eN (W (a2 - a1)))))),(11,(iv v2))],[(.live true true v1c),(.live false false [(.s 2 0 a3.1.1.length 10),(iv a3.1.2.1),(.s 0 0 v1n 1),(.s 3 0 a3.1.2.2.2.length 8)]),(.live false true (flat dC a3.1.1)),(.live false true (flat cB a3.1.2.2.2)),(.live true false [(.v (.int .u64 v3))])]⟩
def eS (a0:List Int)(a0_o:Nat)(a0_n:Nat)(a1:Int)(a2:Int)(a3:eP×Int):List Int×Int×Int->(List Int×Int×Int)⊕(List Int)
 | (v1,v2,v3) =>
  (bif (decide ((v2:Int)<=(W ((W (a1+(W ((W (Int.tdiv (W (a2 - a1)) 4))*2))))+1)))) then
   (bif (decide (((W (IntKind.wrap .u64 ((BitVec.ofInt 64 (eE v3).1 &&& BitVec.ofInt 64 (IntKind.wrap .u64 ((eN (W (a2 - a1))) - 1))).toNat:Int))):Int)≥(W (a2 - a1)))) then
    (.inl (((v1.set (a0_o+tN v2) (v1.getD (a0_o+tN (W (a1+(W ((W (IntKind.wrap .u64 ((BitVec.ofInt 64 (eE v3).1 &&& BitVec.ofInt 64 (IntKind.wrap .u64 ((eN (W (a2 - a1))) - 1))).toNat:Int))) - (W (a2 - a1))))))) dF)).set (a0_o+tN (W (a1+(W ((W (IntKind.wrap .u64 ((BitVec.ofInt 64 (eE v3).1 &&& BitVec.ofInt 64 (IntKind.wrap .u64 ((eN (W (a2 - a1))) - 1))).toNat:Int))) - (W (a2 - a1))))))) (v1.getD (a0_o+tN v2) dF)),(v2+1),(eE v3).2))
   else
    (.inl (((v1.set (a0_o+tN v2) (v1.getD (a0_o+tN (W (a1+(W (IntKind.wrap .u64 ((BitVec.ofInt 64 (eE v3).1 &&& BitVec.ofInt 64 (IntKind.wrap .u64 ((eN (W (a2 - a1))) - 1))).toNat:Int)))))) dF)).set (a0_o+tN (W (a1+(W (IntKind.wrap .u64 ((BitVec.ofInt 64 (eE v3).1 &&& BitVec.ofInt 64 (IntKind.wrap .u64 ((eN (W (a2 - a1))) - 1))).toNat:Int)))))) (v1.getD (a0_o+tN v2) dF)),(v2+1),(eE v3).2)))
  else
   (.inr v1))
theorem aE0 (a0:List Int)(a0_o:Nat)(a0_n:Nat)(a1:Int)(a2:Int)(a3:eP×Int)(l0:a0.length<=2^63-1)(l3_1_1:a3.1.1.length<=2^63-1)(l3_1_2_2_1:a3.1.2.2.1.length<=2^63-1)(l3_1_2_2_2:a3.1.2.2.2.length<=2^63-1)(hw:a0_o+a0_n<=a0.length/\a0.length<=1048576)(hr:InR a3.1.1.length a0)(hab:0<=a1/\a1<=a2/\a2<=↑a0_n) {cx:Cx} (hcx:cx.base=4):∀(n:Nat) (v1:List Int) (v2 v3:Int),(v1.length=a0.length)/\(InR a3.1.1.length v1)/\(8<=a2 - a1)/\(a1+(a2 - a1) / 4*2 - 1<=v2)/\(v2<=a1+(a2 - a1) / 4*2+2)->tN (a1+(a2 - a1) / 4*2+2 - v2) < n->Aw.Good Tryz.prog none 9 (bodyPost Tryz.prog Tryz.f111 (RR cx (.t []) [] [(.live true true (flat c3 (aH (eS a0 a0_o a0_n a1 a2 a3) n (v1,v2,v3)))),.un,.un,.un])) cx [] (.l mS n::mT) (lN a0 a0_o a0_n a1 a2 a3 (flat c3 v1) v1.length v2 v3):=by
 intro n
 induction n with
 | zero=>intro v1 v2 v3 hi hn;exact absurd hn (eI _)
 | succ n ih =>
  intro v1 v2 v3 hi hn
  refine aR ?_
  have hw_0:W (a2 - a1)=a2 - a1:=(aS (n:=a2 - a1) (by omega) (by omega)).trans (by omega)
  have hq4:=aDb (x:=W (a2 - a1)) (by omega)
  have hc_2:(W (a1+(W ((W (Int.tdiv (W (a2 - a1)) 4))*2))))=a1+(a2 - a1) / 4*2:=by rw [hq4,hw_0];exact(aS (by rw [aS (by omega) (by omega)];omega) (by rw [aS (by omega) (by omega)];omega)).trans (by rw [aS (by omega) (by omega)])
  have hc_4:=aS (n:=(W (a1+(W ((W (Int.tdiv (W (a2 - a1)) 4))*2))))+1) (by omega) (by omega)
  have hw_i:=aS (n:=v2+1) (by omega) (by omega)
  have hot:0<=(W (IntKind.wrap .u64 ((BitVec.ofInt 64 (eE v3).1 &&& BitVec.ofInt 64 (IntKind.wrap .u64 ((eN (W (a2 - a1))) - 1))).toNat:Int)))/\(W (IntKind.wrap .u64 ((BitVec.ofInt 64 (eE v3).1 &&& BitVec.ofInt 64 (IntKind.wrap .u64 ((eN (W (a2 - a1))) - 1))).toNat:Int))) < 2*(W (a2 - a1)):=aOr (eE v3).1 (n:=W (a2 - a1)) (by omega)
  have hwo1:=aS (n:=(W (IntKind.wrap .u64 ((BitVec.ofInt 64 (eE v3).1 &&& BitVec.ofInt 64 (IntKind.wrap .u64 ((eN (W (a2 - a1))) - 1))).toNat:Int))) - (W (a2 - a1))) (by omega) (by omega)
  let t0:List (St Tryz.prog):=[.p (show(4:Int)≠0 from by decide)]
  cases h0:(decide ((v2:Int)<=(W ((W (a1+(W ((W (Int.tdiv (W (a2 - a1)) 4))*2))))+1)))) with
  | true =>
   have q0:=cJ h0
   let t1:List (St Tryz.prog):=(t0++[.d h0,.c [4] (aW9 v3)])
   cases h1:(decide (((W (IntKind.wrap .u64 ((BitVec.ofInt 64 (eE v3).1 &&& BitVec.ofInt 64 (IntKind.wrap .u64 ((eN (W (a2 - a1))) - 1))).toNat:Int))):Int)≥(W (a2 - a1)))) with
   | true =>
    have q1:=cJ h1
    try have hwo2:=(fun _=>aS (n:=a1+(W ((W (IntKind.wrap .u64 ((BitVec.ofInt 64 (eE v3).1 &&& BitVec.ofInt 64 (IntKind.wrap .u64 ((eN (W (a2 - a1))) - 1))).toNat:Int))) - (W (a2 - a1))))) (by omega) (by omega)) h1
    try have hwo3:=(fun _=>aS (n:=a1+(W (IntKind.wrap .u64 ((BitVec.ofInt 64 (eE v3).1 &&& BitVec.ofInt 64 (IntKind.wrap .u64 ((eN (W (a2 - a1))) - 1))).toNat:Int)))) (by omega) (by omega)) h1
    have e:=Eq.refl (eS a0 a0_o a0_n a1 a2 a3 (v1,v2,v3));conv at e=>rhs;simp only [eS,h0,h1,aT]
    rw [aI e]
    refine ba (t1++[.d h1,.i (W (a1+(W ((W (IntKind.wrap .u64 ((BitVec.ofInt 64 (eE v3).1 &&& BitVec.ofInt 64 (IntKind.wrap .u64 ((eN (W (a2 - a1))) - 1))).toNat:Int))) - (W (a2 - a1)))))) a0_n,cQ aF v1 a0_o (W (a1+(W ((W (IntKind.wrap .u64 ((BitVec.ofInt 64 (eE v3).1 &&& BitVec.ofInt 64 (IntKind.wrap .u64 ((eN (W (a2 - a1))) - 1))).toNat:Int))) - (W (a2 - a1)))))) 0 1,.i v2 a0_n,cQ aF v1 a0_o v2 0 1,.i v2 a0_n,.p (show((0+a0_o*1+tN v2*1)+1<=(flat c3 v1).length) from(aX aF (by first | omega | (simp only [Lt];omega)) (o:=0) (Nb rfl))),.i (W (a1+(W ((W (IntKind.wrap .u64 ((BitVec.ofInt 64 (eE v3).1 &&& BitVec.ofInt 64 (IntKind.wrap .u64 ((eN (W (a2 - a1))) - 1))).toNat:Int))) - (W (a2 - a1)))))) a0_n,.p (show((0+a0_o*1+tN (W (a1+(W ((W (IntKind.wrap .u64 ((BitVec.ofInt 64 (eE v3).1 &&& BitVec.ofInt 64 (IntKind.wrap .u64 ((eN (W (a2 - a1))) - 1))).toNat:Int))) - (W (a2 - a1))))))*1)+1<=(splice (flat c3 v1) (0+a0_o*1+tN v2*1) [(iv (v1.getD (a0_o+tN (W (a1+(W ((W (IntKind.wrap .u64 ((BitVec.ofInt 64 (eE v3).1 &&& BitVec.ofInt 64 (IntKind.wrap .u64 ((eN (W (a2 - a1))) - 1))).toNat:Int))) - (W (a2 - a1))))))) dF))]).length) from(by rw [show(splice (flat c3 v1) (0+a0_o*1+tN v2*1) [(iv (v1.getD (a0_o+tN (W (a1+(W ((W (IntKind.wrap .u64 ((BitVec.ofInt 64 (eE v3).1 &&& BitVec.ofInt 64 (IntKind.wrap .u64 ((eN (W (a2 - a1))) - 1))).toNat:Int))) - (W (a2 - a1))))))) dF))])=flat c3 (v1.set (a0_o+tN v2) (v1.getD (a0_o+tN (W (a1+(W ((W (IntKind.wrap .u64 ((BitVec.ofInt 64 (eE v3).1 &&& BitVec.ofInt 64 (IntKind.wrap .u64 ((eN (W (a2 - a1))) - 1))).toNat:Int))) - (W (a2 - a1))))))) dF)) from(aP aF (by first | omega | (simp only [Lt];omega)) (o:=0) (d:=dF) (Nb rfl) rfl)];exact aX aF (by first | omega | (simp only [Lt];omega)) (o:=0) (Nb rfl)))]) [] [0,1,8,9,10,11] [4] hcx (m:=n) mS (mT) (lN a0 a0_o a0_n a1 a2 a3 (splice (splice (flat c3 v1) (0+a0_o*1+tN v2*1) [(iv (v1.getD (a0_o+tN (W (a1+(W ((W (IntKind.wrap .u64 ((BitVec.ofInt 64 (eE v3).1 &&& BitVec.ofInt 64 (IntKind.wrap .u64 ((eN (W (a2 - a1))) - 1))).toNat:Int))) - (W (a2 - a1))))))) dF))]) (0+a0_o*1+tN (W (a1+(W ((W (IntKind.wrap .u64 ((BitVec.ofInt 64 (eE v3).1 &&& BitVec.ofInt 64 (IntKind.wrap .u64 ((eN (W (a2 - a1))) - 1))).toNat:Int))) - (W (a2 - a1))))))*1) [(iv (v1.getD (a0_o+tN v2) dF))]) (v1.length) (W (v2+1)) ((eE v3).2)) (by kernel_rfl) ?_
    have z0:(W (v2+1))=(v2+1):=aS (by omega) (by omega)
    have z1:(splice (splice (flat c3 v1) (0+a0_o*1+tN v2*1) [(iv (v1.getD (a0_o+tN (W (a1+(W ((W (IntKind.wrap .u64 ((BitVec.ofInt 64 (eE v3).1 &&& BitVec.ofInt 64 (IntKind.wrap .u64 ((eN (W (a2 - a1))) - 1))).toNat:Int))) - (W (a2 - a1))))))) dF))]) (0+a0_o*1+tN (W (a1+(W ((W (IntKind.wrap .u64 ((BitVec.ofInt 64 (eE v3).1 &&& BitVec.ofInt 64 (IntKind.wrap .u64 ((eN (W (a2 - a1))) - 1))).toNat:Int))) - (W (a2 - a1))))))*1) [(iv (v1.getD (a0_o+tN v2) dF))])=flat c3 ((v1.set (a0_o+tN v2) (v1.getD (a0_o+tN (W (a1+(W ((W (IntKind.wrap .u64 ((BitVec.ofInt 64 (eE v3).1 &&& BitVec.ofInt 64 (IntKind.wrap .u64 ((eN (W (a2 - a1))) - 1))).toNat:Int))) - (W (a2 - a1))))))) dF)).set (a0_o+tN (W (a1+(W ((W (IntKind.wrap .u64 ((BitVec.ofInt 64 (eE v3).1 &&& BitVec.ofInt 64 (IntKind.wrap .u64 ((eN (W (a2 - a1))) - 1))).toNat:Int))) - (W (a2 - a1))))))) (v1.getD (a0_o+tN v2) dF)):=(by rw [show(splice (flat c3 v1) (0+a0_o*1+tN v2*1) [(iv (v1.getD (a0_o+tN (W (a1+(W ((W (IntKind.wrap .u64 ((BitVec.ofInt 64 (eE v3).1 &&& BitVec.ofInt 64 (IntKind.wrap .u64 ((eN (W (a2 - a1))) - 1))).toNat:Int))) - (W (a2 - a1))))))) dF))])=flat c3 (v1.set (a0_o+tN v2) (v1.getD (a0_o+tN (W (a1+(W ((W (IntKind.wrap .u64 ((BitVec.ofInt 64 (eE v3).1 &&& BitVec.ofInt 64 (IntKind.wrap .u64 ((eN (W (a2 - a1))) - 1))).toNat:Int))) - (W (a2 - a1))))))) dF)) from(aP aF (by first | omega | (simp only [Lt];omega)) (o:=0) (d:=dF) (Nb rfl) rfl)];exact aP aF (by first | omega | (simp only [Lt];omega)) (o:=0) (d:=dF) (Nb rfl) rfl)
    have z2:v1.length=((v1.set (a0_o+tN v2) (v1.getD (a0_o+tN (W (a1+(W ((W (IntKind.wrap .u64 ((BitVec.ofInt 64 (eE v3).1 &&& BitVec.ofInt 64 (IntKind.wrap .u64 ((eN (W (a2 - a1))) - 1))).toNat:Int))) - (W (a2 - a1))))))) dF)).set (a0_o+tN (W (a1+(W ((W (IntKind.wrap .u64 ((BitVec.ofInt 64 (eE v3).1 &&& BitVec.ofInt 64 (IntKind.wrap .u64 ((eN (W (a2 - a1))) - 1))).toNat:Int))) - (W (a2 - a1))))))) (v1.getD (a0_o+tN v2) dF)).length:=by simp
    rw [z0,z1,z2]
    exact ih ((v1.set (a0_o+tN v2) (v1.getD (a0_o+tN (W (a1+(W ((W (IntKind.wrap .u64 ((BitVec.ofInt 64 (eE v3).1 &&& BitVec.ofInt 64 (IntKind.wrap .u64 ((eN (W (a2 - a1))) - 1))).toNat:Int))) - (W (a2 - a1))))))) dF)).set (a0_o+tN (W (a1+(W ((W (IntKind.wrap .u64 ((BitVec.ofInt 64 (eE v3).1 &&& BitVec.ofInt 64 (IntKind.wrap .u64 ((eN (W (a2 - a1))) - 1))).toNat:Int))) - (W (a2 - a1))))))) (v1.getD (a0_o+tN v2) dF)) (v2+1) ((eE v3).2) (by and_intros<;>(try simp only [Lt])<;>first | omega | assumption | exact hi.2.1 | exact hi.2.2.1 | exact InR.swap hi.2.1 (by omega) (by omega) | exact InR.swap hr (by omega) (by omega)) (by omega)
   | false =>
    have q1:=cN h1
    try have hwo2:=(fun _=>aS (n:=a1+(W ((W (IntKind.wrap .u64 ((BitVec.ofInt 64 (eE v3).1 &&& BitVec.ofInt 64 (IntKind.wrap .u64 ((eN (W (a2 - a1))) - 1))).toNat:Int))) - (W (a2 - a1))))) (by omega) (by omega)) h1
    try have hwo3:=(fun _=>aS (n:=a1+(W (IntKind.wrap .u64 ((BitVec.ofInt 64 (eE v3).1 &&& BitVec.ofInt 64 (IntKind.wrap .u64 ((eN (W (a2 - a1))) - 1))).toNat:Int)))) (by omega) (by omega)) h1
    have e:=Eq.refl (eS a0 a0_o a0_n a1 a2 a3 (v1,v2,v3));conv at e=>rhs;simp only [eS,h0,h1,aT]
    rw [aI e]
    refine ba (t1++[.d h1,.i (W (a1+(W (IntKind.wrap .u64 ((BitVec.ofInt 64 (eE v3).1 &&& BitVec.ofInt 64 (IntKind.wrap .u64 ((eN (W (a2 - a1))) - 1))).toNat:Int))))) a0_n,cQ aF v1 a0_o (W (a1+(W (IntKind.wrap .u64 ((BitVec.ofInt 64 (eE v3).1 &&& BitVec.ofInt 64 (IntKind.wrap .u64 ((eN (W (a2 - a1))) - 1))).toNat:Int))))) 0 1,.i v2 a0_n,cQ aF v1 a0_o v2 0 1,.i v2 a0_n,.p (show((0+a0_o*1+tN v2*1)+1<=(flat c3 v1).length) from(aX aF (by first | omega | (simp only [Lt];omega)) (o:=0) (Nb rfl))),.i (W (a1+(W (IntKind.wrap .u64 ((BitVec.ofInt 64 (eE v3).1 &&& BitVec.ofInt 64 (IntKind.wrap .u64 ((eN (W (a2 - a1))) - 1))).toNat:Int))))) a0_n,.p (show((0+a0_o*1+tN (W (a1+(W (IntKind.wrap .u64 ((BitVec.ofInt 64 (eE v3).1 &&& BitVec.ofInt 64 (IntKind.wrap .u64 ((eN (W (a2 - a1))) - 1))).toNat:Int)))))*1)+1<=(splice (flat c3 v1) (0+a0_o*1+tN v2*1) [(iv (v1.getD (a0_o+tN (W (a1+(W (IntKind.wrap .u64 ((BitVec.ofInt 64 (eE v3).1 &&& BitVec.ofInt 64 (IntKind.wrap .u64 ((eN (W (a2 - a1))) - 1))).toNat:Int)))))) dF))]).length) from(by rw [show(splice (flat c3 v1) (0+a0_o*1+tN v2*1) [(iv (v1.getD (a0_o+tN (W (a1+(W (IntKind.wrap .u64 ((BitVec.ofInt 64 (eE v3).1 &&& BitVec.ofInt 64 (IntKind.wrap .u64 ((eN (W (a2 - a1))) - 1))).toNat:Int)))))) dF))])=flat c3 (v1.set (a0_o+tN v2) (v1.getD (a0_o+tN (W (a1+(W (IntKind.wrap .u64 ((BitVec.ofInt 64 (eE v3).1 &&& BitVec.ofInt 64 (IntKind.wrap .u64 ((eN (W (a2 - a1))) - 1))).toNat:Int)))))) dF)) from(aP aF (by first | omega | (simp only [Lt];omega)) (o:=0) (d:=dF) (Nb rfl) rfl)];exact aX aF (by first | omega | (simp only [Lt];omega)) (o:=0) (Nb rfl)))]) [] [0,1,8,9,10,11] [4] hcx (m:=n) mS (mT) (lN a0 a0_o a0_n a1 a2 a3 (splice (splice (flat c3 v1) (0+a0_o*1+tN v2*1) [(iv (v1.getD (a0_o+tN (W (a1+(W (IntKind.wrap .u64 ((BitVec.ofInt 64 (eE v3).1 &&& BitVec.ofInt 64 (IntKind.wrap .u64 ((eN (W (a2 - a1))) - 1))).toNat:Int)))))) dF))]) (0+a0_o*1+tN (W (a1+(W (IntKind.wrap .u64 ((BitVec.ofInt 64 (eE v3).1 &&& BitVec.ofInt 64 (IntKind.wrap .u64 ((eN (W (a2 - a1))) - 1))).toNat:Int)))))*1) [(iv (v1.getD (a0_o+tN v2) dF))]) (v1.length) (W (v2+1)) ((eE v3).2)) (by kernel_rfl) ?_
    have z0:(W (v2+1))=(v2+1):=aS (by omega) (by omega)
    have z1:(splice (splice (flat c3 v1) (0+a0_o*1+tN v2*1) [(iv (v1.getD (a0_o+tN (W (a1+(W (IntKind.wrap .u64 ((BitVec.ofInt 64 (eE v3).1 &&& BitVec.ofInt 64 (IntKind.wrap .u64 ((eN (W (a2 - a1))) - 1))).toNat:Int)))))) dF))]) (0+a0_o*1+tN (W (a1+(W (IntKind.wrap .u64 ((BitVec.ofInt 64 (eE v3).1 &&& BitVec.ofInt 64 (IntKind.wrap .u64 ((eN (W (a2 - a1))) - 1))).toNat:Int)))))*1) [(iv (v1.getD (a0_o+tN v2) dF))])=flat c3 ((v1.set (a0_o+tN v2) (v1.getD (a0_o+tN (W (a1+(W (IntKind.wrap .u64 ((BitVec.ofInt 64 (eE v3).1 &&& BitVec.ofInt 64 (IntKind.wrap .u64 ((eN (W (a2 - a1))) - 1))).toNat:Int)))))) dF)).set (a0_o+tN (W (a1+(W (IntKind.wrap .u64 ((BitVec.ofInt 64 (eE v3).1 &&& BitVec.ofInt 64 (IntKind.wrap .u64 ((eN (W (a2 - a1))) - 1))).toNat:Int)))))) (v1.getD (a0_o+tN v2) dF)):=(by rw [show(splice (flat c3 v1) (0+a0_o*1+tN v2*1) [(iv (v1.getD (a0_o+tN (W (a1+(W (IntKind.wrap .u64 ((BitVec.ofInt 64 (eE v3).1 &&& BitVec.ofInt 64 (IntKind.wrap .u64 ((eN (W (a2 - a1))) - 1))).toNat:Int)))))) dF))])=flat c3 (v1.set (a0_o+tN v2) (v1.getD (a0_o+tN (W (a1+(W (IntKind.wrap .u64 ((BitVec.ofInt 64 (eE v3).1 &&& BitVec.ofInt 64 (IntKind.wrap .u64 ((eN (W (a2 - a1))) - 1))).toNat:Int)))))) dF)) from(aP aF (by first | omega | (simp only [Lt];omega)) (o:=0) (d:=dF) (Nb rfl) rfl)];exact aP aF (by first | omega | (simp only [Lt];omega)) (o:=0) (d:=dF) (Nb rfl) rfl)
    have z2:v1.length=((v1.set (a0_o+tN v2) (v1.getD (a0_o+tN (W (a1+(W (IntKind.wrap .u64 ((BitVec.ofInt 64 (eE v3).1 &&& BitVec.ofInt 64 (IntKind.wrap .u64 ((eN (W (a2 - a1))) - 1))).toNat:Int)))))) dF)).set (a0_o+tN (W (a1+(W (IntKind.wrap .u64 ((BitVec.ofInt 64 (eE v3).1 &&& BitVec.ofInt 64 (IntKind.wrap .u64 ((eN (W (a2 - a1))) - 1))).toNat:Int)))))) (v1.getD (a0_o+tN v2) dF)).length:=by simp
    rw [z0,z1,z2]
    exact ih ((v1.set (a0_o+tN v2) (v1.getD (a0_o+tN (W (a1+(W (IntKind.wrap .u64 ((BitVec.ofInt 64 (eE v3).1 &&& BitVec.ofInt 64 (IntKind.wrap .u64 ((eN (W (a2 - a1))) - 1))).toNat:Int)))))) dF)).set (a0_o+tN (W (a1+(W (IntKind.wrap .u64 ((BitVec.ofInt 64 (eE v3).1 &&& BitVec.ofInt 64 (IntKind.wrap .u64 ((eN (W (a2 - a1))) - 1))).toNat:Int)))))) (v1.getD (a0_o+tN v2) dF)) (v2+1) ((eE v3).2) (by and_intros<;>(try simp only [Lt])<;>first | omega | assumption | exact hi.2.1 | exact hi.2.2.1 | exact InR.swap hi.2.1 (by omega) (by omega) | exact InR.swap hr (by omega) (by omega)) (by omega)
  | false =>
   have q0:=cN h0
   have e:=Eq.refl (eS a0 a0_o a0_n a1 a2 a3 (v1,v2,v3));conv at e=>rhs;simp only [eS,h0,aT]
   rw [aJ,e]
   try dsimp only [bA]
   try dsimp only
   exact rtn (t0++[.d h0]) [] [0] [] hcx (by kernel_rfl)
def eT (a0:List Int)(a0_o:Nat)(a0_n:Nat)(a1:Int)(a2:Int)(a3:eP×Int):List Int :=
 (bif (decide (((W (a2 - a1)):Int)≥8)) then
  (aH (eS a0 a0_o a0_n a1 a2 a3) (tN (a1+(a2 - a1) / 4*2+2 - (W ((W (a1+(W ((W (Int.tdiv (W (a2 - a1)) 4))*2)))) - 1)))+1) (a0,(W ((W (a1+(W ((W (Int.tdiv (W (a2 - a1)) 4))*2)))) - 1)),(IntKind.wrap .u64 (W (a2 - a1)))))
 else
  a0)
theorem aJf (a0:List Int)(a0_o:Nat)(a0_n:Nat)(a1:Int)(a2:Int)(a3:eP×Int)(l0:a0.length<=2^63-1)(l3_1_1:a3.1.1.length<=2^63-1)(l3_1_2_2_1:a3.1.2.2.1.length<=2^63-1)(l3_1_2_2_2:a3.1.2.2.2.length<=2^63-1)(hw:a0_o+a0_n<=a0.length/\a0.length<=1048576)(hr:InR a3.1.1.length a0)(hab:0<=a1/\a1<=a2/\a2<=↑a0_n):Con Tryz.prog 111 [(.s 0 (0+a0_o*1) a0_n 1),(iv a1),(iv a2),(.f 1000075 [(.a [(.p 1 0),(iv a3.2)])])] [(.live true true (flat c3 a0)),(.live false false [(.s 2 0 a3.1.1.length 10),(iv a3.1.2.1),(.s 0 0 a0.length 1),(.s 3 0 a3.1.2.2.2.length 8)]),(.live false true (flat dC a3.1.1)),(.live false true (flat cB a3.1.2.2.2))] (.t []) [] [(.live true true (flat c3 (eT a0 a0_o a0_n a1 a2 a3))),.un,.un,.un]:=by
 refine aY Tryz.func111 (by kernel_rfl) fun cx hcx=>?_
 have hw_0:W (a2 - a1)=a2 - a1:=(aS (n:=a2 - a1) (by omega) (by omega)).trans (by omega)
 have hq4:=aDb (x:=W (a2 - a1)) (by omega)
 have hc_2:(W (a1+(W ((W (Int.tdiv (W (a2 - a1)) 4))*2))))=a1+(a2 - a1) / 4*2:=by rw [hq4,hw_0];exact(aS (by rw [aS (by omega) (by omega)];omega) (by rw [aS (by omega) (by omega)];omega)).trans (by rw [aS (by omega) (by omega)])
 have hc_3:=aS (n:=(W (a1+(W ((W (Int.tdiv (W (a2 - a1)) 4))*2)))) - 1) (by omega) (by omega)
 cases h0:(decide (((W (a2 - a1)):Int)≥8)) with
 | true =>
  have q0:=cJ h0
  have e:=Eq.refl (eT a0 a0_o a0_n a1 a2 a3);conv at e=>rhs;simp only [eT,h0,aT]
  rw [e]
  refine en [.d h0,.c [] (aW8 (W (a2 - a1))  (by omega)),.p (show(4:Int)≠0 from by decide)] [] [0,1,8,9,10,11] [4] hcx mS (mT) (lN a0 a0_o a0_n a1 a2 a3 (flat c3 a0) (a0.length) (W ((W (a1+(W ((W (Int.tdiv (W (a2 - a1)) 4))*2)))) - 1)) (IntKind.wrap .u64 (W (a2 - a1)))) (tN (a1+(a2 - a1) / 4*2+2 - (W ((W (a1+(W ((W (Int.tdiv (W (a2 - a1)) 4))*2)))) - 1)))+1) (by kernel_rfl) ?_
  exact aE0 a0 a0_o a0_n a1 a2 a3 l0 l3_1_1 l3_1_2_2_1 l3_1_2_2_2 hw hr hab hcx (tN (a1+(a2 - a1) / 4*2+2 - (W ((W (a1+(W ((W (Int.tdiv (W (a2 - a1)) 4))*2)))) - 1)))+1) a0 (W ((W (a1+(W ((W (Int.tdiv (W (a2 - a1)) 4))*2)))) - 1)) (IntKind.wrap .u64 (W (a2 - a1))) (by and_intros<;>(try simp only [Lt])<;>first | omega | assumption | exact hi.2.1 | exact hi.2.2.1 | exact InR.swap hi.2.1 (by omega) (by omega) | exact InR.swap hr (by omega) (by omega)) (by omega)
 | false =>
  have q0:=cN h0
  have e:=Eq.refl (eT a0 a0_o a0_n a1 a2 a3);conv at e=>rhs;simp only [eT,h0,aT]
  rw [e]
  try dsimp only [bA]
  try dsimp only
  exact rtn [.d h0] [] [0] [] hcx (by kernel_rfl)
section
variable {o n : Nat} {l l0 : List Int} {c : rG}
theorem oT (lt:Int->Int->Bool)(a:Nat):∀(j:Nat) (d:Array Int),(Go.Sort.insInner lt a j d).size=d.size
 | 0,d=>rfl
 | j+1,d=>by
  rw [Go.Sort.insInner]
  split
  ·rw [oT lt a j,rY]
  ·rfl
theorem aK7 (hl:o+n<=l.length)(hn:n<=1048576) {a:Nat} {a2:Int}:∀(m:Nat) (d:Array Int) (j:Nat) (w:Int),d.size=n->j < n->j - a < m ->
 aH (dH l0 o n (a:Int) a2 c) m (wp l o d,w,(j:Int))=.inl (wp l o (Go.Sort.insInner (bK c) a j d),w+1)
 | 0,_,_,_,_,_,h=>absurd h (eI _)
 | m+1,d,0,w,hd,hj,hm=>by
  refine aQ ?_
  simp only [dH]
  rw [dA (by omega),cond_false];rfl
 | m+1,d,j+1,w,hd,hj,hm=>by
  have hl':o+d.size<=l.length:=by omega
  have e1:W (((j+1:Nat):Int) - 1)=((j:Nat):Int):=wN (by omega) (by omega)
  rw [Go.Sort.insInner]
  by_cases h1:j+1 > a
  ·have e:dH l0 o n (a:Int) a2 c (wp l o d,w,((j+1:Nat):Int))=bif bK c d[j+1]! d[j]! then .inl (wp l o (Go.Sort.swp d (j+1) j),w,(j:Int)) else .inr (.inl (wp l o d,w+1)):=by
    simp only [dH,e1,fZ,aK5,aK6]
    rw [cH (by omega),cond_true,gP hl' (i:=j+1) (j:=j) (by omega) (by omega),cW hl' (i:=j+1) (by omega),cW hl' (i:=j) (by omega)]
   rw [cH h1,Bool.true_and]
   cases q:bK c d[j+1]! d[j]! with
   | true =>
    rw [q,cond_true] at e
    rw [aI e]
    exact aK7 hl hn m _ j w (by rw [rY];exact hd) (by omega) (by omega)
   | false=>rw [q,cond_false] at e;exact aQ e
  ·rw [dA h1,Bool.false_and]
   refine aQ ?_
   simp only [dH]
   rw [dA (by omega),cond_false];rfl
theorem aK8 (hl:o+n<=l.length)(hn:n<=1048576) {a b:Nat} (hb:b<=n):∀(m:Nat) (d:Array Int) (i:Nat),d.size=n->b - i < m ->
 aH (eD l0 o n (a:Int) (b:Int) c) m (wp l o d,(i:Int))=wp l o (Go.Sort.insOuter (bK c) a b i d)
 | 0,_,_,_,h=>absurd h (eI _)
 | m+1,d,i,hd,hm=>by
  rw [Go.Sort.insOuter]
  by_cases h1:i < b
  ·rw [if_pos h1]
   have e:eD l0 o n (a:Int) (b:Int) c (wp l o d,(i:Int))=aH (dH l0 o n (a:Int) (b:Int) c) (tN ((i:Int) - a)+1) (wp l o d,(i:Int),(i:Int)):=by
    simp only [eD];rw [cH (by omega),cond_true]
   rw [aI (e.trans (aK7 hl hn _ d i _ hd (by omega) (by omega)))]
   exact aK8 hl hn hb m _ (i+1) (by rw [oT];exact hd) (by omega)
  ·rw [if_neg h1]
   refine aQ ?_
   simp only [eD];rw [dA (by omega),cond_false]
theorem aOs {d:Array Int} (hl:o+n<=l.length)(hn:n<=1048576) {a b:Nat} (hb:b<=n)(ha:a<=n)(hd:d.size=n):hP (wp l o d) o n (a:Int) (b:Int) c=wp l o (Go.Sort.insertionSort (bK c) d a b):=by
 unfold hP
 rw [wN (n:=a+1) (by omega) (by omega)]
 exact aK8 hl hn hb _ d (a+1) hd (by omega)
theorem aS8 (hl:o+n<=l.length)(hn:n<=1048576) {a1 a2:Int}:∀(m:Nat) (d:Array Int) (i j:Nat),d.size=n->i<=n->j < n->j - i < m ->
 aH (fG l0 o n a1 a2 c) m (wp l o d,(i:Int),(j:Int))=wp l o (Go.Sort.reverseLoop i j d)
 | 0,_,_,_,_,_,_,h=>absurd h (eI _)
 | m+1,d,i,j,hd,hi,hj,hm=>by
  have hl':o+d.size<=l.length:=by omega
  rw [Go.Sort.reverseLoop]
  by_cases h1:i < j
  ·rw [if_pos h1]
   have e:fG l0 o n a1 a2 c (wp l o d,(i:Int),(j:Int))=.inl (wp l o (Go.Sort.swp d i j),((i+1:Nat):Int),((j - 1:Nat):Int)):=by
    simp only [fG,fZ]
    rw [cH (by omega),cond_true,gP hl' (i:=i) (j:=j) (by omega) (by omega),wN (x:=(j:Int) - 1) (n:=j - 1) (by omega) (by omega)]
    rfl
   rw [aI e]
   exact aS8 hl hn m _ (i+1) (j - 1) (by rw [rY];exact hd) (by omega) (by omega) (by omega)
  ·rw [if_neg h1]
   refine aQ ?_
   simp only [fG];rw [dA (by omega),cond_false]
theorem aOt {d:Array Int} (hl:o+n<=l.length)(hn:n<=1048576) {a b:Nat} (hab:a < b)(hb:b<=n)(hd:d.size=n):fD (wp l o d) o n (a:Int) (b:Int) c=wp l o (Go.Sort.reverseRange d a b):=by
 unfold fD
 rw [wN (x:=(b:Int) - 1) (n:=b - 1) (by omega) (by omega)]
 exact aS8 hl hn _ d a (b - 1) hd (by omega) (by omega) (by omega)
theorem aOu (hl:o+n<=l.length)(hn:n<=1048576) {a:Nat} {a2:Int}:∀(k m:Nat) (d:Array Int),d.size=n->a+k<=n->k < m ->
 aH (fH l0 o n (a:Int) a2 c) m (wp l o d,(k:Int) - 1)=wp l o (Go.Sort.heapPop (bK c) a k d)/\(Go.Sort.heapPop (bK c) a k d).size=n
 | 0,m+1,d,hd,_,_=>by
  refine⟨aQ ?_,hd⟩
  simp only [fH]
  rw [dA (by omega),cond_false];rfl
 | k+1,m+1,d,hd,hk,hm=>by
  have hl':o+d.size<=l.length:=by omega
  have hs:=aS6 (c:=((c.1.1,c.1.2.1,(wp l o (Go.Sort.swp d a (a+k)),c.1.2.2.2)),c.2)) (l:=l) (d:=Go.Sort.swp d a (a+k)) (hi:=k) (first:=a) (lo:=0) hl hn (by omega) (by omega) (by rw [rY];exact hd)
  have e:fH l0 o n (a:Int) a2 c (wp l o d,((k+1:Nat):Int) - 1)=.inl (wp l o (Go.Sort.siftDown (bK c) k a 0 (Go.Sort.swp d a (a+k))),(k:Int) - 1):=by
   rw [show((k+1:Nat):Int) - 1=(k:Int) by omega]
   simp only [fH,fZ,wN (x:=(a:Int)+(k:Int)) (n:=a+k) (by omega) (by omega)]
   rw [cH (by omega),cond_true,gP hl' (i:=a) (j:=a+k) (by omega) (by omega),aS (n:=(k:Int) - 1) (by omega) (by omega)]
   exact congrArg (fun z=>Sum.inl (z,(k:Int) - 1)) hs.1
  rw [aI e]
  exact aOu hl hn k m _ hs.2 (by omega) (by omega)
theorem aOv (hl:o+n<=l.length)(hn:n<=1048576) {a b:Nat} (hab:a<=b)(hb:b<=n):∀(k m:Nat) (d:Array Int),d.size=n->k<=1048576->k < m ->
 aH (fI l0 o n (a:Int) (b:Int) c) m (wp l o d,(k:Int) - 1)=wp l o (Go.Sort.heapPop (bK c) a (b - a) (Go.Sort.heapBuild (bK c) (b - a) a k d))/\(Go.Sort.heapPop (bK c) a (b - a) (Go.Sort.heapBuild (bK c) (b - a) a k d)).size=n
 | 0,m+1,d,hd,_,_=>by
  have e2:W ((W ((b:Int) - (a:Int))) - 1)=((b - a:Nat):Int) - 1:=by rw [wN (x:=(b:Int) - (a:Int)) (n:=b - a) (by omega) (by omega)];exact aS (by omega) (by omega)
  have h1:=aOu (l:=l) (l0:=l0) (c:=c) (a:=a) (a2:=(b:Int)) hl hn (b - a) (tN (((b - a:Nat):Int) - 1+1)+1) d hd (by omega) (by omega)
  refine⟨aQ ?_,h1.2⟩
  simp only [fI,e2]
  rw [dA (by omega),cond_false,h1.1];rfl
 | k+1,m+1,d,hd,hk,hm=>by
  have hs:=aS6 (c:=((c.1.1,c.1.2.1,(wp l o d,c.1.2.2.2)),c.2)) (l:=l) (d:=d) (hi:=b - a) (first:=a) (lo:=k) hl hn (by omega) (by omega) hd
  have e:fI l0 o n (a:Int) (b:Int) c (wp l o d,((k+1:Nat):Int) - 1)=.inl (wp l o (Go.Sort.siftDown (bK c) (b - a) a k d),(k:Int) - 1):=by
   rw [show((k+1:Nat):Int) - 1=(k:Int) by omega]
   simp only [fI,wN (x:=(b:Int) - (a:Int)) (n:=b - a) (by omega) (by omega)]
   rw [cH (by omega),cond_true,aS (n:=(k:Int) - 1) (by omega) (by omega)]
   exact congrArg (fun z=>Sum.inl (z,(k:Int) - 1)) hs.1
  rw [aI e]
  exact aOv hl hn hab hb k m _ hs.2 (by omega) (by omega)
theorem aOw {d:Array Int} (hl:o+n<=l.length)(hn:n<=1048576) {a b:Nat} (hab:a<=b)(hb:b<=n)(hd:d.size=n):hY (wp l o d) o n (a:Int) (b:Int) c=wp l o (Go.Sort.heapSort (bK c) d a b):=by
 unfold hY
 have hm:W (Int.tdiv (W ((W ((b:Int) - (a:Int))) - 1)) 2)=(((b - a - 1) / 2+1:Nat):Int) - 1:=by
  rw [wN (x:=(b:Int) - (a:Int)) (n:=b - a) (by omega) (by omega)]
  rcases aOn (n:=((b - a:Nat):Int)) (by omega) with h | ⟨h,h2⟩
  ·by_cases h0:b - a=0
   ·rw [h0];decide
   ·rw [h];omega
  ·rw [h2];omega
 rw [hm]
 exact(aOv (l:=l) hl hn hab hb ((b - a - 1) / 2+1) _ d hd (by omega) (by omega)).1
end
end Go.Proofs.YtkdfcbmcgnaicaaGreat
namespace Go.Proofs.YtkdfcbmcgnaicaaGreat
open Go.Proofs Go.Aw Go.RowKit
set_option maxRecDepth 100000
section
open Go.Sort
variable {o n : Nat} {l l0 : List Int} {c : rG} {a3 b : Int} {a : Nat} {d : Array Int}
theorem gT (c:rG)(v:List Int)(x y:Int):decide (pL ((c.1.1,c.1.2.1,(v,c.1.2.2.2)),c.2) x y < 0)=bK c x y:=rfl
theorem oU (p:Int->Bool)(d:Array Int)(i j:Nat)(h:1<=j):scanDown p d i j=if i<=j&&p d[j]! then scanDown p d i (j - 1) else j:=by
 obtain⟨j,rfl⟩:∃k,j=k+1:=⟨j - 1,by omega⟩
 rw [scanDown];rfl
theorem aK9 (hl:o+n<=l.length)(hn:n<=1048576)(hd:d.size=n)(ha:a < n) {j:Nat} (hj:j < n):∀(m i:Nat),i<=1048577->j+2 - i < m ->
 aH (dI l0 o n (a:Int) b a3 c) m (wp l o d,(i:Int),(j:Int))=(aH (bT l0 o n (a:Int) b a3 c) (tN ((j:Int)+2 - (scanUp (fun x=>bK c x d[a]!) d j i:Nat))+1) (wp l o d,((scanUp (fun x=>bK c x d[a]!) d j i:Nat):Int),(j:Int)))
 | 0,_,_,h=>absurd h (eI _)
 | m+1,i,hi,hm=>by
  have hl':o+d.size<=l.length:=by omega
  rw [scanUp]
  by_cases h1:i<=j
  ·rw [cH h1,Bool.true_and]
   have e:dI l0 o n (a:Int) b a3 c (wp l o d,(i:Int),(j:Int))=bif (bK c d[i]! d[a]!) then .inl (wp l o d,((i+1:Nat):Int),(j:Int)) else .inr (aH (bT l0 o n (a:Int) b a3 c) (tN ((j:Int)+2 - (i:Int))+1) (wp l o d,(i:Int),(j:Int))):=by
    simp only [dI,fZ,gT]
    rw [cH (show(i:Int)<=(j:Int) by omega),cond_true,cW hl' (i:=i) (by omega),cW hl' (i:=a) (by omega)]
    rfl
   cases q:bK c d[i]! d[a]! with
   | true =>
    rw [q] at e
    rw [aI (e.trans (by rfl)),if_pos (show(true)=true from rfl)]
    exact aK9 hl hn hd ha hj m (i+1) (by omega) (by omega)
   | false =>
    rw [q] at e
    rw [if_neg (show ¬(false)=true from by decide)]
    exact aQ (e.trans (by rfl))
  ·rw [dA h1,Bool.false_and,if_neg Bool.false_ne_true]
   refine aQ ?_
   simp only [dI]
   rw [dA (show ¬(i:Int)<=(j:Int) by omega),cond_false]
theorem aLa (hl:o+n<=l.length)(hn:n<=1048576)(hd:d.size=n)(ha:a < n) {i:Nat} (hi:1<=i/\i<=n+1):∀(m j:Nat),j < n->i<=j+2->j+2 - i < m ->
 aH (bT l0 o n (a:Int) b a3 c) m (wp l o d,(i:Int),(j:Int))=(if i > scanDown (fun x=>!bK c x d[a]!) d i j then(((scanDown (fun x=>!bK c x d[a]!) d i j:Nat):Int),true,wp l o (swp d (scanDown (fun x=>!bK c x d[a]!) d i j) a)) else aH (bS l0 o n (a:Int) b a3 c) (tN (((scanDown (fun x=>!bK c x d[a]!) d i j - 1:Nat):Int)+2 - ((i+1:Nat):Int))+1) (wp l o (swp d i (scanDown (fun x=>!bK c x d[a]!) d i j)),((i+1:Nat):Int),((scanDown (fun x=>!bK c x d[a]!) d i j - 1:Nat):Int)))
 | 0,_,_,_,h=>absurd h (eI _)
 | m+1,j,hj,hij,hm=>by
  have hl':o+d.size<=l.length:=by omega
  by_cases h1:i<=j
  ·rw [oU _ _ _ _ (by omega),cH h1,Bool.true_and]
   have e1:W ((j:Int) - 1)=((j - 1:Nat):Int):=wN (by omega) (by omega)
   have e2:W ((i:Int)+1)=((i+1:Nat):Int):=wN (by omega) (by omega)
   cases q:bK c d[j]! d[a]! with
   | false =>
    rw [if_pos (show(!false)=true from rfl)]
    have e:bT l0 o n (a:Int) b a3 c (wp l o d,(i:Int),(j:Int))=.inl (wp l o d,(i:Int),((j - 1:Nat):Int)):=by
     simp only [bT,fZ,gT,e1]
     rw [cH (show(i:Int)<=(j:Int) by omega),cond_true,cW hl' (i:=j) (by omega),cW hl' (i:=a) (by omega)]
     rw [q];rfl
    rw [aI e]
    exact aLa hl hn hd ha hi m (j - 1) (by omega) (by omega) (by omega)
   | true =>
    rw [if_neg (show ¬(!true)=true from by decide),if_neg (by omega)]
    refine aQ ?_
    simp only [bT,fZ,gT,e1,e2]
    rw [cH (show(i:Int)<=(j:Int) by omega),cond_true,gP hl' (i:=i) (j:=j) (by omega) (by omega),gP hl' (i:=j) (j:=a) (by omega) (by omega),cW hl' (i:=j) (by omega),cW hl' (i:=a) (by omega),dA (show ¬(i:Int) > (j:Int) by omega),cond_false,q]
    rfl
  ·have hsd:scanDown (fun x=>!bK c x d[a]!) d i j=j:=by
    cases j with
    | zero=>rfl
    | succ j=>rw [scanDown,dA h1];rfl
   rw [hsd,if_pos (by omega)]
   refine aQ ?_
   simp only [bT,fZ]
   rw [dA (show ¬(i:Int)<=(j:Int) by omega),cond_false,cH (show(i:Int) > (j:Int) by omega),cond_true,gP hl' (i:=j) (j:=a) (by omega) (by omega)]
theorem aLb (hl:o+n<=l.length)(hn:n<=1048576)(hd:d.size=n)(ha:a < n) {j:Nat} (hj:j < n):∀(m i:Nat),i<=1048577->j+2 - i < m ->
 aH (cS l0 o n (a:Int) b a3 c) m (wp l o d,(i:Int),(j:Int))=(aH (bR l0 o n (a:Int) b a3 c) (tN ((j:Int)+2 - (scanUp (fun x=>bK c x d[a]!) d j i:Nat))+1) (wp l o d,((scanUp (fun x=>bK c x d[a]!) d j i:Nat):Int),(j:Int)))
 | 0,_,_,h=>absurd h (eI _)
 | m+1,i,hi,hm=>by
  have hl':o+d.size<=l.length:=by omega
  rw [scanUp]
  by_cases h1:i<=j
  ·rw [cH h1,Bool.true_and]
   have e:cS l0 o n (a:Int) b a3 c (wp l o d,(i:Int),(j:Int))=bif (bK c d[i]! d[a]!) then .inl (wp l o d,((i+1:Nat):Int),(j:Int)) else .inr (aH (bR l0 o n (a:Int) b a3 c) (tN ((j:Int)+2 - (i:Int))+1) (wp l o d,(i:Int),(j:Int))):=by
    simp only [cS,fZ,gT]
    rw [cH (show(i:Int)<=(j:Int) by omega),cond_true,cW hl' (i:=i) (by omega),cW hl' (i:=a) (by omega)]
    rfl
   cases q:bK c d[i]! d[a]! with
   | true =>
    rw [q] at e
    rw [aI (e.trans (by rfl)),if_pos (show(true)=true from rfl)]
    exact aLb hl hn hd ha hj m (i+1) (by omega) (by omega)
   | false =>
    rw [q] at e
    rw [if_neg (show ¬(false)=true from by decide)]
    exact aQ (e.trans (by rfl))
  ·rw [dA h1,Bool.false_and,if_neg Bool.false_ne_true]
   refine aQ ?_
   simp only [cS]
   rw [dA (show ¬(i:Int)<=(j:Int) by omega),cond_false]
theorem aLc (hl:o+n<=l.length)(hn:n<=1048576)(hd:d.size=n)(ha:a < n) {i:Nat} (hi:1<=i/\i<=n+1):∀(m j:Nat),j < n->i<=j+2->j+2 - i < m ->
 aH (bR l0 o n (a:Int) b a3 c) m (wp l o d,(i:Int),(j:Int))=(if i > scanDown (fun x=>!bK c x d[a]!) d i j then .inr (((scanDown (fun x=>!bK c x d[a]!) d i j:Nat):Int),false,wp l o (swp d (scanDown (fun x=>!bK c x d[a]!) d i j) a)) else .inl (wp l o (swp d i (scanDown (fun x=>!bK c x d[a]!) d i j)),((i+1:Nat):Int),((scanDown (fun x=>!bK c x d[a]!) d i j - 1:Nat):Int)))
 | 0,_,_,_,h=>absurd h (eI _)
 | m+1,j,hj,hij,hm=>by
  have hl':o+d.size<=l.length:=by omega
  by_cases h1:i<=j
  ·rw [oU _ _ _ _ (by omega),cH h1,Bool.true_and]
   have e1:W ((j:Int) - 1)=((j - 1:Nat):Int):=wN (by omega) (by omega)
   have e2:W ((i:Int)+1)=((i+1:Nat):Int):=wN (by omega) (by omega)
   cases q:bK c d[j]! d[a]! with
   | false =>
    rw [if_pos (show(!false)=true from rfl)]
    have e:bR l0 o n (a:Int) b a3 c (wp l o d,(i:Int),(j:Int))=.inl (wp l o d,(i:Int),((j - 1:Nat):Int)):=by
     simp only [bR,fZ,gT,e1]
     rw [cH (show(i:Int)<=(j:Int) by omega),cond_true,cW hl' (i:=j) (by omega),cW hl' (i:=a) (by omega)]
     rw [q];rfl
    rw [aI e]
    exact aLc hl hn hd ha hi m (j - 1) (by omega) (by omega) (by omega)
   | true =>
    rw [if_neg (show ¬(!true)=true from by decide),if_neg (by omega)]
    refine aQ ?_
    simp only [bR,fZ,gT,e1,e2]
    rw [cH (show(i:Int)<=(j:Int) by omega),cond_true,gP hl' (i:=i) (j:=j) (by omega) (by omega),gP hl' (i:=j) (j:=a) (by omega) (by omega),cW hl' (i:=j) (by omega),cW hl' (i:=a) (by omega),dA (show ¬(i:Int) > (j:Int) by omega),cond_false,q]
    rfl
  ·have hsd:scanDown (fun x=>!bK c x d[a]!) d i j=j:=by
    cases j with
    | zero=>rfl
    | succ j=>rw [scanDown,dA h1];rfl
   rw [hsd,if_pos (by omega)]
   refine aQ ?_
   simp only [bR,fZ]
   rw [dA (show ¬(i:Int)<=(j:Int) by omega),cond_false,cH (show(i:Int) > (j:Int) by omega),cond_true,gP hl' (i:=j) (j:=a) (by omega) (by omega)]
theorem aLd (hl:o+n<=l.length)(hn:n<=1048576)(ha:a < n):∀(m:Nat) (d:Array Int) (i j:Nat),d.size=n->a < i->i<=j+2->j < n->j+2 - i < m ->
 aH (bS l0 o n (a:Int) b a3 c) m (wp l o d,(i:Int),(j:Int))=(((partLoop (bK c) a i j d).1:Int),false,wp l o (swp (partLoop (bK c) a i j d).2 (partLoop (bK c) a i j d).1 a))
 | 0,_,_,_,_,_,_,_,h=>absurd h (eI _)
 | m+1,d,i,j,hd,hai,hij,hj,hm=>by
  have h3:=aLb (l:=l) (l0:=l0) (c:=c) (a3:=a3) (b:=b) (a:=a) hl hn hd ha hj (tN ((j:Int)+2 - (i:Int))+1) i (by omega) (by omega)
  have g1:=scanUp_ge (fun x=>bK c x d[a]!) d j i
  have g2:scanUp (fun x=>bK c x d[a]!) d j i<=j+2:=by
   have:=(scanUp_spec (fun x=>bK c x d[a]!) d j _ i rfl).2.1
   by_cases h:i<=j+1
   ·omega
   ·rw [scanUp,dA (by omega)];simp;omega
  have h4:=aLc (l:=l) (l0:=l0) (c:=c) (a3:=a3) (b:=b) (a:=a) hl hn hd ha (i:=scanUp (fun x=>bK c x d[a]!) d j i) (by omega) (tN ((j:Int)+2 - (scanUp (fun x=>bK c x d[a]!) d j i:Nat))+1) j hj (by omega) (by omega)
  have g3:=scanDown_le (fun x=>!bK c x d[a]!) d (scanUp (fun x=>bK c x d[a]!) d j i) j
  have e:bS l0 o n (a:Int) b a3 c (wp l o d,(i:Int),(j:Int))=aH (cS l0 o n (a:Int) b a3 c) (tN ((j:Int)+2 - (i:Int))+1) (wp l o d,(i:Int),(j:Int)):=rfl
  rw [partLoop_eq]
  by_cases h:scanUp (fun x=>bK c x d[a]!) d j i > scanDown (fun x=>!bK c x d[a]!) d (scanUp (fun x=>bK c x d[a]!) d j i) j
  ·rw [if_pos h] at h4 ⊢
   exact aQ (e.trans (h3.trans h4))
  ·rw [if_neg h] at h4 ⊢
   rw [aI (e.trans (h3.trans h4))]
   exact aLd hl hn ha m _ _ _ (by rw [Go.Sort.size_swp];exact hd) (by omega) (by omega) (by omega) (by omega)
theorem aOx (hl:o+n<=l.length)(hn:n<=1048576)(hd:d.size=n) {b p:Nat} (hap:a<=p)(hpb:p < b)(hb:b<=n) :
 aN (wp l o d) o n (a:Int) (b:Int) (p:Int) c=(((partition (bK c) d a b p).1:Int),(partition (bK c) d a b p).2.1,wp l o (partition (bK c) d a b p).2.2):=by
 have hl':o+d.size<=l.length:=by omega
 have hds:(swp d a p).size=n:=by rw [Go.Sort.size_swp];exact hd
 unfold aN partition
 dsimp only
 rw [fZ,fZ,gP hl' (i:=a) (j:=p) (by omega) (by omega),wN (x:=(a:Int)+1) (n:=a+1) (by omega) (by omega),wN (x:=(b:Int) - 1) (n:=b - 1) (by omega) (by omega)]
 generalize swp d a p=d at hds ⊢
 rw [aK9 (l:=l) (a:=a) hl hn hds (by omega) (j:=b - 1) (by omega) _ (a+1) (by omega) (by omega)]
 have g1:=scanUp_ge (fun x=>bK c x d[a]!) d (b - 1) (a+1)
 have g2:=(scanUp_spec (fun x=>bK c x d[a]!) d (b - 1) _ (a+1) rfl).2.1 (by omega)
 rw [aLa (l:=l) (a:=a) hl hn hds (by omega) (i:=scanUp (fun x=>bK c x d[a]!) d (b - 1) (a+1)) (by omega) _ (b - 1) (by omega) (by omega) (by omega)]
 have g3:=scanDown_le (fun x=>!bK c x d[a]!) d (scanUp (fun x=>bK c x d[a]!) d (b - 1) (a+1)) (b - 1)
 generalize scanUp (fun x=>bK c x d[a]!) d (b - 1) (a+1)=i at g1 g2 g3 ⊢
 by_cases h:i > scanDown (fun x=>!bK c x d[a]!) d i (b - 1)
 ·rw [if_pos h,if_pos h]
 ·rw [if_neg h,if_neg h,aLd hl hn (by omega) _ _ _ _ (by rw [Go.Sort.size_swp];exact hds) (by omega) (by omega) (by omega) (by omega)]
theorem aLe (hl:o+n<=l.length)(hn:n<=1048576)(hd:d.size=n)(ha:a < n) {j:Nat} (hj:j < n):∀(m i:Nat),i<=1048577->j+2 - i < m ->
 aH (dJ l0 o n (a:Int) b a3 c) m (wp l o d,(i:Int),(j:Int))=(aH (bV l0 o n (a:Int) b a3 c) (tN ((j:Int)+2 - (scanUp (fun x=>!bK c d[a]! x) d j i:Nat))+1) (wp l o d,((scanUp (fun x=>!bK c d[a]! x) d j i:Nat):Int),(j:Int)))
 | 0,_,_,h=>absurd h (eI _)
 | m+1,i,hi,hm=>by
  have hl':o+d.size<=l.length:=by omega
  rw [scanUp]
  by_cases h1:i<=j
  ·rw [cH h1,Bool.true_and]
   have e:dJ l0 o n (a:Int) b a3 c (wp l o d,(i:Int),(j:Int))=bif (!bK c d[a]! d[i]!) then .inl (wp l o d,((i+1:Nat):Int),(j:Int)) else .inr (aH (bV l0 o n (a:Int) b a3 c) (tN ((j:Int)+2 - (i:Int))+1) (wp l o d,(i:Int),(j:Int))):=by
    simp only [dJ,fZ,gT]
    rw [cH (show(i:Int)<=(j:Int) by omega),cond_true,cW hl' (i:=i) (by omega),cW hl' (i:=a) (by omega)]
    rfl
   cases q:bK c d[a]! d[i]! with
   | false =>
    rw [q] at e
    rw [aI (e.trans (by rfl)),if_pos (show(!false)=true from rfl)]
    exact aLe hl hn hd ha hj m (i+1) (by omega) (by omega)
   | true =>
    rw [q] at e
    rw [if_neg (show ¬(!true)=true from by decide)]
    exact aQ (e.trans (by rfl))
  ·rw [dA h1,Bool.false_and,if_neg Bool.false_ne_true]
   refine aQ ?_
   simp only [dJ]
   rw [dA (show ¬(i:Int)<=(j:Int) by omega),cond_false]
theorem aLf (hl:o+n<=l.length)(hn:n<=1048576)(hd:d.size=n)(ha:a < n) {i:Nat} (hi:1<=i/\i<=n+1):∀(m j:Nat),j < n->i<=j+2->j+2 - i < m ->
 aH (bV l0 o n (a:Int) b a3 c) m (wp l o d,(i:Int),(j:Int))=(if i > scanDown (fun x=>bK c d[a]! x) d i j then .inr ((i:Int),wp l o d) else .inl (wp l o (swp d i (scanDown (fun x=>bK c d[a]! x) d i j)),((i+1:Nat):Int),((scanDown (fun x=>bK c d[a]! x) d i j - 1:Nat):Int)))
 | 0,_,_,_,h=>absurd h (eI _)
 | m+1,j,hj,hij,hm=>by
  have hl':o+d.size<=l.length:=by omega
  by_cases h1:i<=j
  ·rw [oU _ _ _ _ (by omega),cH h1,Bool.true_and]
   have e1:W ((j:Int) - 1)=((j - 1:Nat):Int):=wN (by omega) (by omega)
   have e2:W ((i:Int)+1)=((i+1:Nat):Int):=wN (by omega) (by omega)
   cases q:bK c d[a]! d[j]! with
   | true =>
    rw [if_pos (show(true)=true from rfl)]
    have e:bV l0 o n (a:Int) b a3 c (wp l o d,(i:Int),(j:Int))=.inl (wp l o d,(i:Int),((j - 1:Nat):Int)):=by
     simp only [bV,fZ,gT,e1]
     rw [cH (show(i:Int)<=(j:Int) by omega),cond_true,cW hl' (i:=j) (by omega),cW hl' (i:=a) (by omega)]
     rw [q];rfl
    rw [aI e]
    exact aLf hl hn hd ha hi m (j - 1) (by omega) (by omega) (by omega)
   | false =>
    rw [if_neg (show ¬(false)=true from by decide),if_neg (by omega)]
    refine aQ ?_
    simp only [bV,fZ,gT,e1,e2]
    rw [cH (show(i:Int)<=(j:Int) by omega),cond_true,gP hl' (i:=i) (j:=j) (by omega) (by omega),cW hl' (i:=j) (by omega),cW hl' (i:=a) (by omega),dA (show ¬(i:Int) > (j:Int) by omega),cond_false,q]
    rfl
  ·have hsd:scanDown (fun x=>bK c d[a]! x) d i j=j:=by
    cases j with
    | zero=>rfl
    | succ j=>rw [scanDown,dA h1];rfl
   rw [hsd,if_pos (by omega)]
   refine aQ ?_
   simp only [bV,fZ]
   rw [dA (show ¬(i:Int)<=(j:Int) by omega),cond_false,cH (show(i:Int) > (j:Int) by omega),cond_true]
theorem aLg (hl:o+n<=l.length)(hn:n<=1048576)(ha:a < n):∀(m:Nat) (d:Array Int) (i j:Nat),d.size=n->a < i->i<=j+2->j < n->j+2 - i < m ->
 aH (cU l0 o n (a:Int) b a3 c) m (wp l o d,(i:Int),(j:Int))=(((partEqLoop (bK c) a i j d).1:Int),wp l o (partEqLoop (bK c) a i j d).2)
 | 0,_,_,_,_,_,_,_,h=>absurd h (eI _)
 | m+1,d,i,j,hd,hai,hij,hj,hm=>by
  have h3:=aLe (l:=l) (l0:=l0) (c:=c) (a3:=a3) (b:=b) (a:=a) hl hn hd ha hj (tN ((j:Int)+2 - (i:Int))+1) i (by omega) (by omega)
  have g1:=scanUp_ge (fun x=>!bK c d[a]! x) d j i
  have g2:scanUp (fun x=>!bK c d[a]! x) d j i<=j+2:=by
   have:=(scanUp_spec (fun x=>!bK c d[a]! x) d j _ i rfl).2.1
   by_cases h:i<=j+1
   ·omega
   ·rw [scanUp,dA (by omega)];simp;omega
  have h4:=aLf (l:=l) (l0:=l0) (c:=c) (a3:=a3) (b:=b) (a:=a) hl hn hd ha (i:=scanUp (fun x=>!bK c d[a]! x) d j i) (by omega) (tN ((j:Int)+2 - (scanUp (fun x=>!bK c d[a]! x) d j i:Nat))+1) j hj (by omega) (by omega)
  have g3:=scanDown_le (fun x=>bK c d[a]! x) d (scanUp (fun x=>!bK c d[a]! x) d j i) j
  have e:cU l0 o n (a:Int) b a3 c (wp l o d,(i:Int),(j:Int))=aH (dJ l0 o n (a:Int) b a3 c) (tN ((j:Int)+2 - (i:Int))+1) (wp l o d,(i:Int),(j:Int)):=rfl
  rw [partEqLoop_eq]
  by_cases h:scanUp (fun x=>!bK c d[a]! x) d j i > scanDown (fun x=>bK c d[a]! x) d (scanUp (fun x=>!bK c d[a]! x) d j i) j
  ·rw [if_pos h] at h4 ⊢
   exact aQ (e.trans (h3.trans h4))
  ·rw [if_neg h] at h4 ⊢
   rw [aI (e.trans (h3.trans h4))]
   exact aLg hl hn ha m _ _ _ (by rw [Go.Sort.size_swp];exact hd) (by omega) (by omega) (by omega) (by omega)
theorem aOy (hl:o+n<=l.length)(hn:n<=1048576)(hd:d.size=n) {b p:Nat} (hap:a<=p)(hpb:p < b)(hb:b<=n) :
 dE (wp l o d) o n (a:Int) (b:Int) (p:Int) c=(((partitionEqual (bK c) d a b p).1:Int),wp l o (partitionEqual (bK c) d a b p).2):=by
 have hl':o+d.size<=l.length:=by omega
 unfold dE partitionEqual
 rw [fZ,fZ,gP hl' (i:=a) (j:=p) (by omega) (by omega),wN (x:=(a:Int)+1) (n:=a+1) (by omega) (by omega),wN (x:=(b:Int) - 1) (n:=b - 1) (by omega) (by omega)]
 exact aLg hl hn (by omega) _ _ _ _ (by rw [Go.Sort.size_swp];exact hd) (by omega) (by omega) (by omega) (by omega)
end
end Go.Proofs.YtkdfcbmcgnaicaaGreat
namespace Go.Proofs.YtkdfcbmcgnaicaaGreat
open Go.Proofs Go.Aw Go.RowKit
set_option maxRecDepth 100000
section
open Go.Sort
variable {o n a b : Nat} {l l0 : List Int} {c : rG} {d : Array Int}
theorem rZ (lt:Int->Int->Bool):∀(j:Nat) (d:Array Int),(shiftDown lt j d).size=d.size
 | 0,d=>rfl
 | j+1,d=>by
  rw [shiftDown]
  split
  ·rfl
  ·rw [rZ lt j,Go.Sort.size_swp]
theorem vX (lt:Int->Int->Bool)(b:Nat):∀(m j:Nat) (d:Array Int),b - j<=m->(shiftUp lt b j d).size=d.size
 | 0,j,d,h=>by rw [shiftUp,if_neg (by omega)]
 | m+1,j,d,h=>by
  rw [shiftUp]
  split
  ·split
   ·rfl
   ·rw [vX lt b m _ _ (by omega),Go.Sort.size_swp]
  ·rfl
theorem vY (lt:Int->Int->Bool)(a i:Nat)(d:Array Int):(fixDown lt a i d).size=d.size:=by
 unfold fixDown;split
 ·exact rZ _ _ _
 ·rfl
theorem aBm (lt:Int->Int->Bool)(b i:Nat)(d:Array Int):(fixUp lt b i d).size=d.size:=by
 unfold fixUp;split
 ·exact vX _ _ _ _ _ (Nat.le_refl _)
 ·rfl
theorem aLh (hl:o+n<=l.length)(hn:n<=1048576)(hb:b<=n) {i s:Int}:∀(m:Nat) (d:Array Int) (j:Nat),d.size=n->1<=j->j<=n->b - j < m ->
 aH (bZ l0 o n (a:Int) (b:Int) c) m (wp l o d,i,s,(j:Int))=.inl (wp l o (shiftUp (bK c) b j d),i,s+1)
 | 0,_,_,_,_,_,h=>absurd h (eI _)
 | m+1,d,j,hd,hj,hjn,hm=>by
  have hl':o+d.size<=l.length:=by omega
  have e1:W ((j:Int) - 1)=((j - 1:Nat):Int):=wN (by omega) (by omega)
  rw [shiftUp]
  by_cases h1:j < b
  ·rw [if_pos h1]
   have e:bZ l0 o n (a:Int) (b:Int) c (wp l o d,i,s,(j:Int))=bif !bK c d[j]! d[j - 1]! then .inr (.inl (wp l o d,i,s+1)) else .inl (wp l o (swp d j (j - 1)),i,s,((j+1:Nat):Int)):=by
    simp only [bZ,fZ,gT,e1]
    rw [cH (show(j:Int) < (b:Int) by omega),cond_true,gP hl' (i:=j) (j:=j - 1) (by omega) (by omega),cW hl' (i:=j) (by omega),cW hl' (i:=j - 1) (by omega)]
    rfl
   cases q:bK c d[j]! d[j - 1]! with
   | true =>
    rw [q] at e
    rw [aI (e.trans (by rfl)),if_neg (show ¬(!true)=true by decide)]
    exact aLh hl hn hb m _ (j+1) (by rw [Go.Sort.size_swp];exact hd) (by omega) (by omega) (by omega)
   | false =>
    rw [q] at e
    rw [if_pos (show(!false)=true from rfl)]
    exact aQ (e.trans (by rfl))
  ·rw [if_neg h1]
   refine aQ ?_
   simp only [bZ]
   rw [dA (show ¬(j:Int) < (b:Int) by omega),cond_false]
theorem aVz (hl:o+n<=l.length)(hn:n<=1048576)(hb:b<=n) {s:Int} {i:Nat} (hd:d.size=n)(hi:i<=b) :
 (bif decide (W ((b:Int) - (i:Int))≥2) then(aH (bZ l0 o n (a:Int) (b:Int) c) (tN ((b:Int) - ((i:Int)+1))+1) (wp l o d,(i:Int),s,(i:Int)+1)) else .inl (wp l o d,(i:Int),s+1))=.inl (wp l o (fixUp (bK c) b i d),(i:Int),s+1):=by
 rw [wN (x:=(b:Int) - (i:Int)) (n:=b - i) (by omega) (by omega)]
 unfold fixUp
 by_cases h:b - i≥2
 ·rw [cH (show((b - i:Nat):Int)≥2 by omega),cond_true,if_pos h]
  exact aLh (i:=(i:Int)) hl hn hb _ d (i+1) hd (by omega) (by omega) (by omega)
 ·rw [dA (show ¬((b - i:Nat):Int)≥2 by omega),cond_false,if_neg h]
theorem aS9 (hl:o+n<=l.length)(hn:n<=1048576)(hb:b<=n) {s:Int} {i:Nat} (hd:d.size=n)(hi:i<=b) :
 (bif decide (W ((b:Int) - (i:Int))≥2) then Sum.inr (aH (bZ l0 o n (a:Int) (b:Int) c) (tN ((b:Int) - ((i:Int)+1))+1) (wp l o d,(i:Int),s,(i:Int)+1)) else Sum.inr (Sum.inl (wp l o d,(i:Int),s+1)):(List Int×Zt)⊕((List Int×Int×Int)⊕(Bool×List Int)))=.inr (.inl (wp l o (fixUp (bK c) b i d),(i:Int),s+1)):=by
 rw [←aVz (l0:=l0) (a:=a) hl hn hb hd hi]
 cases decide (W ((b:Int) - (i:Int))≥2)<;>rfl
theorem aLi (hl:o+n<=l.length)(hn:n<=1048576)(hb:b<=n) {s:Int} {i:Nat} (hi:i<=b):∀(m:Nat) (d:Array Int) (j:Nat),d.size=n->j < n->j < m ->
 aH (cA l0 o n (a:Int) (b:Int) c) m (wp l o d,(i:Int),s,(j:Int))=.inl (wp l o (fixUp (bK c) b i (shiftDown (bK c) j d)),(i:Int),s+1)
 | 0,_,_,_,_,h=>absurd h (eI _)
 | m+1,d,0,hd,hj,hm=>by
  refine aQ ?_
  simp only [cA]
  rw [dA (show ¬((0:Nat):Int)≥1 by omega),cond_false]
  exact aS9 hl hn hb hd hi
 | m+1,d,j+1,hd,hj,hm=>by
  have hl':o+d.size<=l.length:=by omega
  have e1:W (((j+1:Nat):Int) - 1)=((j:Nat):Int):=wN (by omega) (by omega)
  rw [shiftDown]
  have e:cA l0 o n (a:Int) (b:Int) c (wp l o d,(i:Int),s,((j+1:Nat):Int))=bif !bK c d[j+1]! d[j]! then .inr (.inl (wp l o (fixUp (bK c) b i d),(i:Int),s+1)) else .inl (wp l o (swp d (j+1) j),(i:Int),s,(j:Int)):=by
   simp only [cA,fZ,gT,e1]
   rw [cH (show((j+1:Nat):Int)≥1 by omega),cond_true,gP hl' (i:=j+1) (j:=j) (by omega) (by omega),cW hl' (i:=j+1) (by omega),cW hl' (i:=j) (by omega)]
   exact congrArg (fun z=>bif !bK c d[j+1]! d[j]! then z else _) (aS9 (l0:=l0) (a:=a) (c:=c) hl hn hb hd hi)
  cases q:bK c d[j+1]! d[j]! with
  | true =>
   rw [q] at e
   rw [aI (e.trans (by rfl)),if_neg (show ¬(!true)=true by decide)]
   exact aLi hl hn hb hi m _ j (by rw [Go.Sort.size_swp];exact hd) (by omega) (by omega)
  | false =>
   rw [q] at e
   rw [if_pos (show(!false)=true from rfl)]
   exact aQ (e.trans (by rfl))
def aOz (l:List Int)(o a b:Nat)(c:rG)(d:Array Int)(k:Nat)(s:Int):(List Int×Int×Int)⊕(Bool×List Int) :=
 if k=b then .inr (true,wp l o d) else if b - a < 50 then .inr (false,wp l o d) else .inl (wp l o (fixUp (bK c) b k (fixDown (bK c) a k (swp d k (k - 1)))),(k:Int),s+1)
theorem aXa (hl:o+n<=l.length)(hn:n<=1048576)(hb:b<=n) {s:Int} {k:Nat} (hd:d.size=n)(hk:a < k)(hkb:k<=b) :
 (bif ((k:Int) == (b:Int)) then Sum.inr (Sum.inr (true,wp l o d)) else bif decide (W ((b:Int) - (a:Int)) < 50) then Sum.inr (Sum.inr (false,wp l o d)) else
  bif decide (W ((k:Int) - (a:Int))≥2) then Sum.inr (aH (cA l0 o n (a:Int) (b:Int) c) (tN ((k - 1:Nat):Int)+1) ((((wp l o d).set (o+k) ((wp l o d).getD (o+(k - 1)) dF)).set (o+(k - 1)) ((wp l o d).getD (o+k) dF)),(k:Int),s,((k - 1:Nat):Int)))
  else bif decide (W ((b:Int) - (k:Int))≥2) then Sum.inr (aH (bZ l0 o n (a:Int) (b:Int) c) (tN ((b:Int) - ((k:Int)+1))+1) ((((wp l o d).set (o+k) ((wp l o d).getD (o+(k - 1)) dF)).set (o+(k - 1)) ((wp l o d).getD (o+k) dF)),(k:Int),s,(k:Int)+1)) else Sum.inr (Sum.inl ((((wp l o d).set (o+k) ((wp l o d).getD (o+(k - 1)) dF)).set (o+(k - 1)) ((wp l o d).getD (o+k) dF)),(k:Int),s+1)) :
  (List Int×Int×Int)⊕((List Int×Int×Int)⊕(Bool×List Int)))=.inr (aOz l o a b c d k s):=by
 have hl':o+d.size<=l.length:=by omega
 unfold aOz
 by_cases h1:k=b
 ·rw [if_pos h1,show((k:Int) == (b:Int))=true by simp;omega];rfl
 ·rw [if_neg h1,show((k:Int) == (b:Int))=false by simp;omega,cond_false,wN (x:=(b:Int) - (a:Int)) (n:=b - a) (by omega) (by omega)]
  by_cases h2:b - a < 50
  ·rw [if_pos h2,cH (by omega)];rfl
  ·rw [if_neg h2,dA (by omega),cond_false,gP hl' (i:=k) (j:=k - 1) (by omega) (by omega),wN (x:=(k:Int) - (a:Int)) (n:=k - a) (by omega) (by omega)]
   have hds:(swp d k (k - 1)).size=n:=by rw [Go.Sort.size_swp];exact hd
   unfold fixDown
   by_cases h3:k - a≥2
   ·rw [cH (show((k - a:Nat):Int)≥2 by omega),cond_true,if_pos h3,aLi hl hn hb hkb _ _ (k - 1) hds (by omega) (by omega)]
   ·rw [dA (show ¬((k - a:Nat):Int)≥2 by omega),cond_false,if_neg h3]
    have:=aVz (l0:=l0) (a:=a) (c:=c) (s:=s) hl hn hb hds hkb
    rw [←this]
    cases decide (W ((b:Int) - (k:Int))≥2)<;>rfl
theorem aLj (hl:o+n<=l.length)(hn:n<=1048576)(hb:b<=n)(hd:d.size=n) {s:Int}:∀(m i:Nat),a < i->i<=b->b - i < m ->
 aH (bC l0 o n (a:Int) (b:Int) c) m (wp l o d,(i:Int),s)=aOz l o a b c d (scanSorted (bK c) d b i) s
 | 0,_,_,_,h=>absurd h (eI _)
 | m+1,i,hai,hib,hm=>by
  have hl':o+d.size<=l.length:=by omega
  have e1:W ((i:Int) - 1)=((i - 1:Nat):Int):=wN (by omega) (by omega)
  rw [scanSorted]
  have hT:=aXa (l0:=l0) (c:=c) (s:=s) hl hn hb hd hai hib
  by_cases h1:i < b
  ·rw [cH h1,Bool.true_and]
   cases q:bK c d[i]! d[i - 1]! with
   | true =>
    rw [if_neg (show ¬(!true)=true by decide)]
    refine aQ ?_
    simp only [bC,fZ,gT,e1]
    rw [cH (show(i:Int) < (b:Int) by omega),cond_true]
    rw [show(!bK c ((wp l o d).getD (o+i) dF) ((wp l o d).getD (o+(i - 1)) dF))=false by rw [cW hl' (by omega),cW hl' (by omega),q];rfl,cond_false]
    exact hT
   | false =>
    rw [if_pos (show(!false)=true from rfl)]
    have e:bC l0 o n (a:Int) (b:Int) c (wp l o d,(i:Int),s)=.inl (wp l o d,((i+1:Nat):Int),s):=by
     simp only [bC,fZ,gT,e1]
     rw [cH (show(i:Int) < (b:Int) by omega),cond_true]
     rw [show(!bK c ((wp l o d).getD (o+i) dF) ((wp l o d).getD (o+(i - 1)) dF))=true by rw [cW hl' (by omega),cW hl' (by omega),q];rfl,cond_true]
     rfl
    rw [aI e]
    exact aLj hl hn hb hd m (i+1) (by omega) (by omega) (by omega)
  ·rw [dA h1,Bool.false_and,if_neg Bool.false_ne_true]
   refine aQ ?_
   simp only [bC,fZ,gT,e1]
   rw [dA (show ¬(i:Int) < (b:Int) by omega),cond_false]
   exact hT
theorem nI (lt:Int->Int->Bool)(d:Array Int)(b:Nat):∀(m i:Nat),b - i<=m->i<=b->i<=scanSorted lt d b i/\scanSorted lt d b i<=b
 | 0,i,h,hi=>by rw [scanSorted,dA (by omega),Bool.false_and,if_neg Bool.false_ne_true];exact⟨Nat.le_refl _,hi⟩
 | m+1,i,h,hi=>by
  rw [scanSorted]
  split
  ·rename_i hc
   simp at hc
   have:=nI lt d b m (i+1) (by omega) (by omega)
   omega
  ·exact⟨Nat.le_refl _,hi⟩
theorem aLk (hl:o+n<=l.length)(hn:n<=1048576)(hb:b<=n):∀(k m:Nat) (d:Array Int) (i:Nat) (s:Int),d.size=n->a < i->i<=b->s+k=5->k < m ->
 aH (bN l0 o n (a:Int) (b:Int) c) m (wp l o d,(i:Int),s)=((partialIns (bK c) a b k i d).2,wp l o (partialIns (bK c) a b k i d).1)/\(partialIns (bK c) a b k i d).1.size=n
 | 0,m+1,d,i,s,hd,hai,hib,hs,hm=>by
  refine⟨aQ ?_,hd⟩
  simp only [bN]
  rw [dA (show ¬s < 5 by omega),cond_false];rfl
 | k+1,m+1,d,i,s,hd,hai,hib,hs,hm=>by
  have e:bN l0 o n (a:Int) (b:Int) c (wp l o d,(i:Int),s)=aOz l o a b c d (scanSorted (bK c) d b i) s:=by
   simp only [bN]
   rw [cH (show s < 5 by omega),cond_true]
   exact aLj hl hn hb hd _ i hai hib (by omega)
  rw [partialIns_succ]
  have hr:=nI (bK c) d b _ i (Nat.le_refl _) hib
  generalize scanSorted (bK c) d b i=q at e hr ⊢
  unfold aOz at e
  by_cases h1:q=b
  ·rw [if_pos h1] at e ⊢
   exact⟨aQ e,hd⟩
  ·rw [if_neg h1] at e ⊢
   by_cases h2:b - a < 50
   ·rw [if_pos h2] at e ⊢
    exact⟨aQ e,hd⟩
   ·rw [if_neg h2] at e ⊢
    rw [aI e]
    exact aLk hl hn hb k m _ q (s+1) (by rw [aBm,vY,Go.Sort.size_swp];exact hd) (by omega) hr.2 (by omega) (by omega)
theorem aO0 (hl:o+n<=l.length)(hn:n<=1048576)(hd:d.size=n)(hab:a < b)(hb:b<=n) :
 cV (wp l o d) o n (a:Int) (b:Int) c=((partialInsertionSort (bK c) d a b).2,wp l o (partialInsertionSort (bK c) d a b).1)/\(partialInsertionSort (bK c) d a b).1.size=n:=by
 unfold cV partialInsertionSort
 rw [wN (x:=(a:Int)+1) (n:=a+1) (by omega) (by omega)]
 exact aLk hl hn hb 5 _ d (a+1) 0 hd (by omega) (by omega) (by omega) (by decide)
end
end Go.Proofs.YtkdfcbmcgnaicaaGreat
namespace Go.Proofs.YtkdfcbmcgnaicaaGreat
open Go.Proofs Go.Aw Go.RowKit
set_option maxRecDepth 100000
section
open Go.Sort
variable {o n a b : Nat} {l l0 : List Int} {c : rG} {d : Array Int}
theorem aO1 (hl:o+n<=l.length)(hd:d.size=n) {x y s:Nat} (hx:x < n)(hy:y < n)(hs:s<=1000) :
 aU (wp l o d) o n (x:Int) (y:Int) (s:Int) c=(((order2 (bK c) d x y s).1:Int),((order2 (bK c) d x y s).2.1:Int),((order2 (bK c) d x y s).2.2:Int))/\(order2 (bK c) d x y s).2.2<=s+1:=by
 have hl':o+d.size<=l.length:=by omega
 unfold aU order2
 rw [gT,fZ,fZ,cW hl' (by omega),cW hl' (by omega)]
 cases bK c d[y]! d[x]! with
 | true=>rw [cond_true,if_pos rfl];exact⟨by rw [wN (x:=(s:Int)+1) (n:=s+1) (by omega) (by omega)],Nat.le_refl _⟩
 | false=>rw [cond_false,if_neg Bool.false_ne_true];exact⟨rfl,Nat.le_succ _⟩
theorem aO2 (hl:o+n<=l.length)(hd:d.size=n) {x y z s:Nat} (hx:x < n)(hy:y < n)(hz:z < n)(hs:s<=900) :
 dP (wp l o d) o n (x:Int) (y:Int) (z:Int) (s:Int) c=(((median (bK c) d x y z s).1:Int),((median (bK c) d x y z s).2:Int))/\(median (bK c) d x y z s).2<=s+3:=by
 unfold dP median
 simp only [aOo]
 have h1:=aO1 (c:=c) hl hd hx hy (s:=s) (by omega)
 have m1:=order2_mem (bK c) d x y s
 rw [h1.1]
 generalize order2 (bK c) d x y s=r1 at h1 m1 ⊢
 have h2:=aO1 (c:=c) hl hd (x:=r1.2.1) (y:=z) (s:=r1.2.2) (by omega) hz (by omega)
 have m2:=order2_mem (bK c) d r1.2.1 z r1.2.2
 rw [h2.1]
 generalize order2 (bK c) d r1.2.1 z r1.2.2=r2 at h2 m2 ⊢
 have h3:=aO1 (c:=c) hl hd (x:=r1.1) (y:=r2.1) (s:=r2.2.2) (by omega) (by omega) (by omega)
 rw [h3.1]
 exact⟨rfl,by omega⟩
theorem aO3 (hl:o+n<=l.length)(hn:n<=1048576)(hd:d.size=n) {x s:Nat} (hx:1<=x)(hx2:x+1 < n)(hs:s<=900) :
 dQ (wp l o d) o n (x:Int) (s:Int) c=(((medianAdjacent (bK c) d x s).1:Int),((medianAdjacent (bK c) d x s).2:Int))/\(medianAdjacent (bK c) d x s).2<=s+3:=by
 have h:=aO2 (c:=((c.1.1,c.1.2.1,(wp l o d,c.1.2.2.2)),c.2)) hl hd (x:=x - 1) (y:=x) (z:=x+1) (s:=s) (by omega) (by omega) (by omega) hs
 unfold dQ
 rw [wN (x:=(x:Int) - 1) (n:=x - 1) (by omega) (by omega),wN (x:=(x:Int)+1) (n:=x+1) (by omega) (by omega),h.1]
 exact⟨rfl,h.2⟩
theorem aUa (v0 v:List Int)(x y z s:Int):dP v0 o n x y z s ((c.1.1,c.1.2.1,(v,c.1.2.2.2)),c.2)=dP v0 o n x y z s c:=rfl
theorem aUb (v0 v:List Int)(x s:Int):dQ v0 o n x s ((c.1.1,c.1.2.1,(v,c.1.2.2.2)),c.2)=dQ v0 o n x s c:=rfl
def aLl:Hint->Int
 | .unknown=>0
 | .increasing=>1
 | .decreasing=>2
theorem aLm (r:Nat×Nat):(bif (((r.2:Nat):Int) == 0) then(((r.1:Nat):Int),(1:Int)) else bif (((r.2:Nat):Int) == 12) then(((r.1:Nat):Int),2) else(((r.1:Nat):Int),0))=((r.1:Int),aLl (if r.2=0 then .increasing else if r.2=12 then .decreasing else .unknown)):=by
 by_cases h:r.2=0
 ·rw [if_pos h,h];rfl
 ·rw [if_neg h,show(((r.2:Nat):Int) == 0)=false by simp;omega,cond_false]
  by_cases h2:r.2=12
  ·rw [if_pos h2,h2];rfl
  ·rw [if_neg h2,show(((r.2:Nat):Int) == 12)=false by simp;omega,cond_false];rfl
theorem aO4 (hl:o+n<=l.length)(hn:n<=1048576)(hd:d.size=n)(hab:a < b)(hb:b<=n) :
 bD (wp l o d) o n (a:Int) (b:Int) c=(((choosePivot (bK c) d a b).1:Int),aLl (choosePivot (bK c) d a b).2):=by
 have hw:W ((b:Int) - (a:Int))=((b - a:Nat):Int):=wN (by omega) (by omega)
 have hq:W (Int.tdiv ((b - a:Nat):Int) 4)=(((b - a) / 4:Nat):Int):=by rw [aDb (by omega)];omega
 have hk:∀k:Nat,k<=3->W ((a:Int)+(W ((((b - a) / 4:Nat):Int)*(k:Int))))=((a+(b - a) / 4*k:Nat):Int):=fun k hk=>by
  rw [wN (x:=(((b - a) / 4:Nat):Int)*(k:Int)) (n:=(b - a) / 4*k) (by push_cast;rfl) (Nat.le_trans (Nat.mul_le_mul_left _ hk) (by omega))]
  exact wN (by push_cast;rfl) (by have:=Nat.mul_le_mul_left ((b - a) / 4) hk;omega)
 have hk1:=hk 1 (by omega);have hk2:=hk 2 (by omega);have hk3:=hk 3 (by omega)
 simp only [Int.natCast_one] at hk1
 rw [show((2:Nat):Int)=2 from rfl] at hk2
 rw [show((3:Nat):Int)=3 from rfl] at hk3
 unfold bD choosePivot
 simp only [gH,gG,bJ,bI,bH]
 simp only [aUb,aUa]
 rw [hw,hq,hk1,hk2,hk3]
 by_cases h8:b - a≥8
 ·rw [cH (show((b - a:Nat):Int)≥8 by omega),cond_true,if_pos h8]
  by_cases h50:b - a≥50
  ·rw [cH (show((b - a:Nat):Int)≥50 by omega),cond_true,if_pos h50]
   have g1:=aO3 (c:=c) hl hn hd (x:=a+(b - a) / 4*1) (s:=0) (by omega) (by omega) (by omega)
   have m1:(medianAdjacent (bK c) d (a+(b - a) / 4*1) 0).1 < n:=by rcases medianAdjacent_mem (bK c) d (a+(b - a) / 4*1) 0 with h | h | h<;>omega
   rw [Int.natCast_zero] at g1
   rw [g1.1]
   generalize medianAdjacent (bK c) d (a+(b - a) / 4*1) 0=r1 at g1 m1 ⊢
   have g2:=aO3 (c:=c) hl hn hd (x:=a+(b - a) / 4*2) (s:=r1.2) (by omega) (by omega) (by omega)
   have m2:(medianAdjacent (bK c) d (a+(b - a) / 4*2) r1.2).1 < n:=by rcases medianAdjacent_mem (bK c) d (a+(b - a) / 4*2) r1.2 with h | h | h<;>omega
   rw [g2.1]
   generalize medianAdjacent (bK c) d (a+(b - a) / 4*2) r1.2=r2 at g2 m2 ⊢
   have g3:=aO3 (c:=c) hl hn hd (x:=a+(b - a) / 4*3) (s:=r2.2) (by omega) (by omega) (by omega)
   have m3:(medianAdjacent (bK c) d (a+(b - a) / 4*3) r2.2).1 < n:=by rcases medianAdjacent_mem (bK c) d (a+(b - a) / 4*3) r2.2 with h | h | h<;>omega
   rw [g3.1]
   generalize medianAdjacent (bK c) d (a+(b - a) / 4*3) r2.2=r3 at g3 m3 ⊢
   have g4:=aO2 (c:=c) hl hd (x:=r1.1) (y:=r2.1) (z:=r3.1) (s:=r3.2) m1 m2 m3 (by omega)
   rw [g4.1]
   exact aLm _
  ·rw [dA (show ¬((b - a:Nat):Int)≥50 by omega),cond_false,if_neg h50]
   have g4:=aO2 (c:=c) hl hd (x:=a+(b - a) / 4*1) (y:=a+(b - a) / 4*2) (z:=a+(b - a) / 4*3) (s:=0) (by omega) (by omega) (by omega) (by omega)
   rw [Int.natCast_zero] at g4
   rw [g4.1]
   exact aLm _
 ·rw [dA (show ¬((b - a:Nat):Int)≥8 by omega),cond_false,if_neg h8]
  rfl
theorem aO5 {x y:Nat} (hx:x < 18446744073709551616)(hy:y < 18446744073709551616):IntKind.wrap .u64 ((BitVec.ofInt 64 (x:Int) ^^^ BitVec.ofInt 64 (y:Int)).toNat:Int)=((x ^^^ y:Nat):Int):=by
 have h:x ^^^ y < 2 ^ 64:=Nat.xor_lt_two_pow (by omega) (by omega)
 rw [BitVec.toNat_xor,BitVec.toNat_ofInt,BitVec.toNat_ofInt,show((x:Int) % ((2 ^ 64:Nat):Int)).toNat=x by omega,show((y:Int) % ((2 ^ 64:Nat):Int)).toNat=y by omega,IntKind.wrap_u64]
 omega
theorem aV0 {x:Nat} (hx:x < 18446744073709551616):eE (x:Int)=(((xorNextN x:Nat):Int),((xorNextN x:Nat):Int)):=by
 have e1:IntKind.wrap .u64 ((BitVec.ofInt 64 (x:Int) ^^^ BitVec.ofInt 64 (IntKind.wrap .u64 ((x:Int)*2 ^ (min (tN 13) 64)))).toNat:Int)=((x ^^^ (x*8192 % 18446744073709551616):Nat):Int):=by
  rw [show(2:Int) ^ (min (tN 13) 64)=8192 from by decide,IntKind.wrap_u64 ((x:Int)*8192),show((x:Int)*8192 % 18446744073709551616)=((x*8192 % 18446744073709551616:Nat):Int) by omega]
  exact aO5 hx (by omega)
 unfold eE xorNextN
 simp only [e1]
 obtain⟨A,hA⟩:∃A:Nat,A=x ^^^ (x*8192 % 18446744073709551616):=⟨_,rfl⟩
 have lA:A < 18446744073709551616:=by rw [hA];exact Nat.xor_lt_two_pow (n:=64) (by omega) (by omega)
 rw [←hA]
 have e2:IntKind.wrap .u64 ((BitVec.ofInt 64 (A:Int) ^^^ BitVec.ofInt 64 (Int.fdiv (A:Int) (2 ^ (min (tN 7) 64)))).toNat:Int)=((A ^^^ (A / 128):Nat):Int):=by
  rw [show(2:Int) ^ (min (tN 7) 64)=128 from by decide,Int.fdiv_eq_ediv_of_nonneg _ (by decide),show((A:Int) / 128)=((A / 128:Nat):Int) by omega]
  exact aO5 lA (by omega)
 simp only [e2]
 obtain⟨B,hB⟩:∃B:Nat,B=A ^^^ (A / 128):=⟨_,rfl⟩
 have lB:B < 18446744073709551616:=by rw [hB];exact Nat.xor_lt_two_pow (n:=64) (by omega) (by omega)
 rw [←hB]
 have e3:IntKind.wrap .u64 ((BitVec.ofInt 64 (B:Int) ^^^ BitVec.ofInt 64 (IntKind.wrap .u64 ((B:Int)*2 ^ (min (tN 17) 64)))).toNat:Int)=((B ^^^ (B*131072 % 18446744073709551616):Nat):Int):=by
  rw [show(2:Int) ^ (min (tN 17) 64)=131072 from by decide,IntKind.wrap_u64 ((B:Int)*131072),show((B:Int)*131072 % 18446744073709551616)=((B*131072 % 18446744073709551616:Nat):Int) by omega]
  exact aO5 lB (by omega)
 rw [e3]
theorem aBn (hl:o+n<=l.length)(hn:n<=1048576)(hd:d.size=n)(hab:a+8<=b)(hb:b<=n) {i:Nat} (h1:a+(b - a) / 4*2<=i+1)(h2:i<=a+(b - a) / 4*2+1)(r:UInt64) :
 eS l0 o n (a:Int) (b:Int) c (wp l o d,(i:Int),((r.toNat:Nat):Int)) =
  .inl (wp l o (breakStep a (b - a) (1 <<< bitsLen (b - a)) (r,d) i).2,((i+1:Nat):Int),(((breakStep a (b - a) (1 <<< bitsLen (b - a)) (r,d) i).1.toNat:Nat):Int))/\(breakStep a (b - a) (1 <<< bitsLen (b - a)) (r,d) i).2.size=n:=by
 have hl':o+d.size<=l.length:=by omega
 have hw:W ((b:Int) - (a:Int))=((b - a:Nat):Int):=wN (by omega) (by omega)
 have hq:W (Int.tdiv ((b - a:Nat):Int) 4)=(((b - a) / 4:Nat):Int):=by rw [aDb (by omega)];omega
 have hA:W ((a:Int)+(W ((((b - a) / 4:Nat):Int)*2)))=((a+(b - a) / 4*2:Nat):Int):=by
  rw [wN (x:=(((b - a) / 4:Nat):Int)*2) (n:=(b - a) / 4*2) (by omega) (by omega)];exact wN (by omega) (by omega)
 have hA1:W (((a+(b - a) / 4*2:Nat):Int)+1)=((a+(b - a) / 4*2+1:Nat):Int):=wN (by omega) (by omega)
 have hM:=aOq (n:=b - a) (by omega) (by omega)
 have hxs:=aV0 (x:=r.toNat) (by have:=r.toNat_lt;omega)
 have hxl:xorNextN r.toNat < 18446744073709551616:=xorNextN_lt _ (by have:=r.toNat_lt;omega)
 have hO:aMx ((xorNextN r.toNat:Nat):Int) (eN ((b - a:Nat):Int))=((xorNextN r.toNat &&& (1 <<< bitsLen (b - a) - 1):Nat):Int):=by
  rw [aOp (by omega),aHb _ ⟨hM.1,by omega⟩,BitVec.toNat_ofInt]
  rw [show(((xorNextN r.toNat:Nat):Int) % ((2 ^ 64:Nat):Int)).toNat=xorNextN r.toNat by omega]
 unfold aMx at hO
 have hle:xorNextN r.toNat &&& (1 <<< bitsLen (b - a) - 1)<=1 <<< bitsLen (b - a) - 1:=Nat.and_le_right
 unfold breakStep
 simp only [xorNext_toNat]
 generalize hoo:xorNextN r.toNat &&& (1 <<< bitsLen (b - a) - 1)=O at hO hle ⊢
 simp only [eS,hw,hq,hA,hA1,hxs,hO,fZ]
 rw [cH (show(i:Int)<=((a+(b - a) / 4*2+1:Nat):Int) by omega),cond_true]
 by_cases h:O≥b - a
 ·rw [cH (show(O:Int)≥((b - a:Nat):Int) by omega),cond_true,if_pos h,wN (x:=(O:Int) - ((b - a:Nat):Int)) (n:=O - (b - a)) (by omega) (by omega),wN (x:=(a:Int)+((O - (b - a):Nat):Int)) (n:=a+(O - (b - a))) (by omega) (by omega),fZ,gP hl' (i:=i) (j:=a+(O - (b - a))) (by omega) (by omega)]
  exact⟨rfl,by rw [Go.Sort.size_swp];exact hd⟩
 ·rw [dA (show ¬(O:Int)≥((b - a:Nat):Int) by omega),cond_false,if_neg h,wN (x:=(a:Int)+(O:Int)) (n:=a+O) (by omega) (by omega),fZ,gP hl' (i:=i) (j:=a+O) (by omega) (by omega)]
  exact⟨rfl,by rw [Go.Sort.size_swp];exact hd⟩
theorem aO6 (hl:o+n<=l.length)(hn:n<=1048576)(hd:d.size=n)(hab:a<=b)(hb:b<=n) :
 eT (wp l o d) o n (a:Int) (b:Int) c=wp l o (breakPatterns d a b):=by
 have hw:W ((b:Int) - (a:Int))=((b - a:Nat):Int):=wN (by omega) (by omega)
 unfold eT breakPatterns
 simp only []
 rw [hw]
 by_cases h8:b - a≥8
 ·rw [cH (show((b - a:Nat):Int)≥8 by omega),cond_true,if_pos h8]
  have hq:W (Int.tdiv ((b - a:Nat):Int) 4)=(((b - a) / 4:Nat):Int):=by rw [aDb (by omega)];omega
  have hA:W ((a:Int)+(W ((((b - a) / 4:Nat):Int)*2)))=((a+(b - a) / 4*2:Nat):Int):=by
   rw [wN (x:=(((b - a) / 4:Nat):Int)*2) (n:=(b - a) / 4*2) (by omega) (by omega)];exact wN (by omega) (by omega)
  rw [hq,hA,wN (x:=((a+(b - a) / 4*2:Nat):Int) - 1) (n:=a+(b - a) / 4*2 - 1) (by omega) (by omega)]
  have hr:IntKind.wrap .u64 ((b - a:Nat):Int)=(((UInt64.ofNat (b - a)).toNat:Nat):Int):=by
   rw [IntKind.wrap_u64,UInt64.toNat_ofNat_of_lt' (show b - a < 2 ^ 64 by omega)];omega
  rw [hr,show tN ((a:Int)+((b:Int) - (a:Int)) / 4*2+2 - ((a+(b - a) / 4*2 - 1:Nat):Int))+1=4 by omega]
  have s1:=aBn (a:=a) (b:=b) (l:=l) (l0:=wp l o d) (c:=c) (d:=d) hl hn hd (by omega) hb (i:=a+(b - a) / 4*2 - 1) (by omega) (by omega) (UInt64.ofNat (b - a))
  rw [aI s1.1]
  generalize hst1:breakStep a (b - a) (1 <<< bitsLen (b - a)) (UInt64.ofNat (b - a),d) (a+(b - a) / 4*2 - 1)=st1 at s1 ⊢
  obtain⟨r1,d1⟩:=st1
  have s2:=aBn (a:=a) (b:=b) (l:=l) (l0:=wp l o d) (c:=c) (d:=d1) hl hn s1.2 (by omega) hb (i:=a+(b - a) / 4*2 - 1+1) (by omega) (by omega) r1
  rw [aI s2.1]
  generalize hst2:breakStep a (b - a) (1 <<< bitsLen (b - a)) (r1,d1) (a+(b - a) / 4*2 - 1+1)=st2 at s2 ⊢
  obtain⟨r2,d2⟩:=st2
  have s3:=aBn (a:=a) (b:=b) (l:=l) (l0:=wp l o d) (c:=c) (d:=d2) hl hn s2.2 (by omega) hb (i:=a+(b - a) / 4*2 - 1+1+1) (by omega) (by omega) r2
  rw [aI s3.1]
  refine aQ ?_
  simp only [eS,hw,hq,hA]
  rw [dA (by rw [wN (x:=((a+(b - a) / 4*2:Nat):Int)+1) (n:=a+(b - a) / 4*2+1) (by omega) (by omega)];omega),cond_false]
 ·rw [dA (show ¬((b - a:Nat):Int)≥8 by omega),cond_false,if_neg h8]
end
end Go.Proofs.YtkdfcbmcgnaicaaGreat
namespace Go.Proofs.YtkdfcbmcgnaicaaGreat
open Go.Proofs Go.Aw Go.RowKit
set_option maxRecDepth 100000
section
open Go.Sort
theorem aLn (x y:Int):F97 x y=if x < y then -1 else if y < x then 1 else 0:=by
 have hn:∀z:Int,aBj z=false:=fun z=>by unfold aBj;simp
 unfold F97
 rw [hn,hn,cond_false,cond_false]
 by_cases h:x < y
 ·rw [cH h,if_pos h];rfl
 ·rw [dA h,if_neg h,cond_false]
  by_cases h2:y < x
  ·rw [cH (show x > y from h2),if_pos h2];rfl
  ·rw [dA (show ¬x > y from h2),if_neg h2];rfl
def kk (c:rG)(x:Int):Int:=rX c.1 x c.2
theorem aE1 (c:rG)(x y:Int):bK c x y=true↔kk c x < kk c y\/kk c x=kk c y/\x < y:=by
 have e:pL c x y=tF (F97 (kk c x) (kk c y),F97 x y):=rfl
 unfold bK
 rw [decide_eq_true_iff,e,aLn,aLn]
 unfold tF
 by_cases h1:kk c x < kk c y
 ·simp [h1]
 ·by_cases h2:kk c y < kk c x
  ·simp [h1,h2];omega
  ·by_cases h3:x < y
   ·simp [h1,h2,h3];omega
   ·by_cases h4:y < x
    ·simp [h1,h2,h3,h4]
    ·simp [h1,h2,h3,h4]
theorem aLo (c:rG)(x y:Int):bK c x y=false↔¬(kk c x < kk c y\/kk c x=kk c y/\x < y):=by
 rw [←aE1];simp
theorem mU (c:rG):SWO (bK c) where
 irrefl x:=by rw [aLo];omega
 trans x y z h1 h2:=by rw [aE1] at *;omega
 ntrans x y z h1 h2:=by rw [aLo] at *;omega
theorem aRg (c:rG)(x y:Int)(h1:bK c x y=false)(h2:bK c y x=false):x=y:=by
 rw [aLo] at *;omega
def Al (p:Int->Prop)(d:Array Int):Prop:=∀i,i < d.size->p d[i]!
variable {p : Int → Prop} {d d' : Array Int} {N o n : Nat} {l v : List Int} {c : rG}
theorem Al.swp (h:Al p d) {i j:Nat} (hi:i < d.size)(hj:j < d.size):Al p (Go.Sort.swp d i j):=fun k hk=>by
 rw [Go.Sort.size_swp] at hk
 rw [Go.Sort.swp_get d hi hj k]
 split
 ·exact h i hi
 ·split
  ·exact h j hj
  ·exact h k hk
theorem Al.perm (h:Al p d) {a b:Nat} (hb:b<=d.size)(hp:PermIn a b d d'):Al p d':=fun k hk=>by
 by_cases hin:a<=k/\k < b
 ·exact permIn_all d d' a b p hb hp (fun i h1 h2=>h i (by omega)) k hin.1 hin.2
 ·rw [hp.2.1 k (by omega)];exact h k (by rw [←hp.1];exact hk)
theorem aUc (h:o+d.size<=l.length):InR N (wp l o d)↔(∀x∈l.take o++l.drop (o+d.size),0<=x/\x < (N:Int))/\Al (fun x=>0<=x/\x < (N:Int)) d:=by
 unfold InR wp Al
 constructor
 ·intro hx
  refine⟨fun x hm=>hx x ?_,fun i hi=>hx _ ?_⟩
  ·rcases List.mem_append.1 hm with hm | hm
   ·exact List.mem_append_left _ (List.mem_append_left _ hm)
   ·exact List.mem_append_right _ hm
  ·refine List.mem_append_left _ (List.mem_append_right _ ?_)
   rw [getElem!_pos d i hi]
   exact Array.mem_toList_iff.2 (Array.getElem_mem hi)
 ·rintro ⟨h1,h2⟩ x hm
  rcases List.mem_append.1 hm with hm | hm
  ·rcases List.mem_append.1 hm with hm | hm
   ·exact h1 x (List.mem_append_left _ hm)
   ·obtain⟨i,hi,rfl⟩:=List.getElem_of_mem hm
    have hi':i < d.size:=by simpa using hi
    have:=h2 i hi'
    rw [getElem!_pos d i hi'] at this
    simpa using this
  ·exact h1 x (List.mem_append_right _ hm)
theorem aO7 (hl:o+n<=v.length)(hi:InR N v) {f:Array Int->Array Int} (hs:(f (kL v o n)).size=n)(hf:∀p,Al p (kL v o n)->Al p (f (kL v o n))):(wp v o (f (kL v o n))).length=v.length/\InR N (wp v o (f (kL v o n))):=by
 refine⟨aBl (by omega),?_⟩
 have hz:(kL v o n).size=n:=fP hl
 have h0:InR N (wp v o (kL v o n)):=by rw [nH hl];exact hi
 rw [aUc (by omega)] at h0 ⊢
 rw [hs];rw [hz] at h0
 exact⟨h0.1,hf _ h0.2⟩
theorem pM (hl:o+n<=v.length)(hi:InR N v) {a b:Nat} (hb:b<=n)(hp:PermIn a b (kL v o n) d'):(wp v o d').length=v.length/\InR N (wp v o d') :=
 aO7 (f:=fun _=>d') hl hi (by rw [hp.1];exact fP hl) (fun p h=>h.perm (by rw [fP hl];exact hb) hp)
theorem vZ (lt:Int->Int->Bool):∀(j:Nat) (d:Array Int),j < d.size->Al p d->Al p (shiftDown lt j d)
 | 0,d,_,h=>h
 | j+1,d,hj,h=>by
  rw [shiftDown]
  split
  ·exact h
  ·exact vZ lt j _ (by rw [Go.Sort.size_swp];omega) (h.swp hj (by omega))
theorem aBo (lt:Int->Int->Bool)(b:Nat):∀(m j:Nat) (d:Array Int),b - j<=m->b<=d.size->Al p d->Al p (shiftUp lt b j d)
 | 0,j,d,hm,_,h=>by rw [shiftUp,if_neg (by omega)];exact h
 | m+1,j,d,hm,hb,h=>by
  rw [shiftUp]
  split
  ·split
   ·exact h
   ·exact aBo lt b m _ _ (by omega) (by rw [Go.Sort.size_swp];exact hb) (h.swp (by omega) (by omega))
  ·exact h
theorem tG (lt:Int->Int->Bool)(a b:Nat):∀(s i:Nat) (d:Array Int),i<=b->b<=d.size->Al p d->Al p (partialIns lt a b s i d).1/\(partialIns lt a b s i d).1.size=d.size
 | 0,i,d,_,_,h=>⟨h,rfl⟩
 | s+1,i,d,hi,hb,h=>by
  rw [partialIns_succ]
  have hr:=nI lt d b _ i (Nat.le_refl _) hi
  generalize scanSorted lt d b i=k at hr ⊢
  split
  ·exact⟨h,rfl⟩
  ·split
   ·exact⟨h,rfl⟩
   ·have h1:Al p (Go.Sort.swp d k (k - 1)):=h.swp (by omega) (by omega)
    have h2:Al p (fixDown lt a k (Go.Sort.swp d k (k - 1))):=by
     unfold fixDown
     split
     ·exact vZ lt _ _ (by rw [Go.Sort.size_swp];omega) h1
     ·exact h1
    have zz2:(fixDown lt a k (Go.Sort.swp d k (k - 1))).size=d.size:=by rw [vY,Go.Sort.size_swp]
    have h3:Al p (fixUp lt b k (fixDown lt a k (Go.Sort.swp d k (k - 1)))):=by
     unfold fixUp
     split
     ·exact aBo lt b _ _ _ (Nat.le_refl _) (by rw [zz2];exact hb) h2
     ·exact h2
    have zz3:(fixUp lt b k (fixDown lt a k (Go.Sort.swp d k (k - 1)))).size=d.size:=by rw [aBm,zz2]
    have ih:=tG lt a b s k _ hr.2 (by rw [zz3];exact hb) h3
    exact⟨ih.1,by rw [ih.2,zz3]⟩
theorem aLp (lt:Int->Int->Bool) {a b q:Nat} (h1:a<=q)(h2:q < b)(hb:b<=d.size):a < (partitionEqual lt d a b q).1/\(partitionEqual lt d a b q).1<=b/\PermIn a b d (partitionEqual lt d a b q).2:=by
 unfold partitionEqual
 obtain⟨r1,r2,r3,_⟩:=partEqLoop_spec lt a b _ (a+1) (b - 1) (Go.Sort.swp d a q) (Nat.le_refl _) (lss a) (by omega) (by omega) (by rw [Go.Sort.size_swp];exact hb) (fun t h1 h2=>by omega) (fun t h1 h2=>by omega)
 exact⟨r1,r2,permIn_trans _ _ _ _ _ (swp_permIn d a b a q (Nat.le_refl _) (by omega) h1 h2 hb) (permIn_mono _ _ (a+1) b a b (Nat.le_succ a) (Nat.le_refl _) (by rw [Go.Sort.size_swp];exact hb) r3)⟩
variable {a b q : Int}
theorem aV1 (hw:o+n<=v.length/\v.length<=1048576)(hi:InR N v)(h:0<=a/\a<=b/\b<=(n:Int)) :
 (hP v o n a b c).length=v.length/\InR N (hP v o n a b c):=by
 obtain⟨a,rfl⟩:∃k:Nat,a=k:=⟨a.toNat,by omega⟩
 obtain⟨b,rfl⟩:∃k:Nat,b=k:=⟨b.toNat,by omega⟩
 have hz:=fP hw.1
 have e:=aOs (l:=v) (c:=c) (d:=kL v o n) hw.1 (by omega) (a:=a) (b:=b) (by omega) (by omega) hz
 rw [nH hw.1] at e
 rw [e]
 exact pM hw.1 hi (a:=a) (b:=b) (by omega) (insertionSort_holds (mU c) _ a b (by omega) (by omega)).1
theorem aV2 (hw:o+n<=v.length/\v.length<=1048576)(hi:InR N v)(h:0<=a/\a<=b/\b<=(n:Int)) :
 (hY v o n a b c).length=v.length/\InR N (hY v o n a b c):=by
 obtain⟨a,rfl⟩:∃k:Nat,a=k:=⟨a.toNat,by omega⟩
 obtain⟨b,rfl⟩:∃k:Nat,b=k:=⟨b.toNat,by omega⟩
 have hz:=fP hw.1
 have e:=aOw (l:=v) (c:=c) (d:=kL v o n) hw.1 (by omega) (a:=a) (b:=b) (by omega) (by omega) hz
 rw [nH hw.1] at e
 rw [e]
 exact pM hw.1 hi (a:=a) (b:=b) (by omega) (heapSort_holds (mU c) _ a b (by omega) (by omega)).1
theorem aTa (hw:o+n<=v.length/\v.length<=1048576)(hi:InR N v)(h:0<=a/\a<=b/\b<=(n:Int)) :
 (eT v o n a b c).length=v.length/\InR N (eT v o n a b c):=by
 obtain⟨a,rfl⟩:∃k:Nat,a=k:=⟨a.toNat,by omega⟩
 obtain⟨b,rfl⟩:∃k:Nat,b=k:=⟨b.toNat,by omega⟩
 have hz:=fP hw.1
 have e:=aO6 (l:=v) (c:=c) (d:=kL v o n) hw.1 (by omega) hz (a:=a) (b:=b) (by omega) (by omega)
 rw [nH hw.1] at e
 rw [e]
 exact pM hw.1 hi (a:=a) (b:=b) (by omega) (breakPatterns_holds _ a b (by omega) (by omega))
theorem aTb (hw:o+n<=v.length/\v.length<=1048576)(hi:InR N v)(h:0<=a/\a < b/\b<=(n:Int)) :
 (fD v o n a b c).length=v.length/\InR N (fD v o n a b c):=by
 obtain⟨a,rfl⟩:∃k:Nat,a=k:=⟨a.toNat,by omega⟩
 obtain⟨b,rfl⟩:∃k:Nat,b=k:=⟨b.toNat,by omega⟩
 have hz:=fP hw.1
 have e:=aOt (l:=v) (c:=c) (d:=kL v o n) hw.1 (by omega) (a:=a) (b:=b) (by omega) (by omega) hz
 rw [nH hw.1] at e
 rw [e]
 exact pM hw.1 hi (a:=a) (b:=b) (by omega) (reverseRange_holds _ a b (by omega) (by omega))
theorem aTc (hw:o+n<=v.length/\v.length<=1048576)(h:0<=a/\a < b/\b<=(n:Int)) :
 a<=(bD v o n a b c).1/\(bD v o n a b c).1 < b:=by
 obtain⟨a,rfl⟩:∃k:Nat,a=k:=⟨a.toNat,by omega⟩
 obtain⟨b,rfl⟩:∃k:Nat,b=k:=⟨b.toNat,by omega⟩
 have hz:=fP hw.1
 have e:=aO4 (l:=v) (c:=c) (d:=kL v o n) hw.1 (by omega) hz (a:=a) (b:=b) (by omega) (by omega)
 rw [nH hw.1] at e
 rw [e]
 have:=choosePivot_holds (bK c) (kL v o n) a b (by omega)
 dsimp only
 omega
theorem aTd (hw:o+n<=v.length/\v.length<=1048576)(hi:InR N v)(h:0<=a/\a < b/\b<=(n:Int)) :
 (cV v o n a b c).2.length=v.length/\InR N (cV v o n a b c).2:=by
 obtain⟨a,rfl⟩:∃k:Nat,a=k:=⟨a.toNat,by omega⟩
 obtain⟨b,rfl⟩:∃k:Nat,b=k:=⟨b.toNat,by omega⟩
 have hz:=fP hw.1
 have e:=aO0 (l:=v) (c:=c) (d:=kL v o n) hw.1 (by omega) hz (a:=a) (b:=b) (by omega) (by omega)
 rw [nH hw.1] at e
 rw [e.1]
 exact aO7 (f:=fun d=>(partialInsertionSort (bK c) d a b).1) hw.1 hi e.2 (fun p hp=>(tG (bK c) a b 5 (a+1) _ (by omega) (by omega) hp).1)
theorem aTe (hw:o+n<=v.length/\v.length<=1048576)(hi:InR N v)(h:0<=a/\a<=q/\q < b/\b<=(n:Int)) :
 (a<=(aN v o n a b q c).1/\(aN v o n a b q c).1 < b)/\(aN v o n a b q c).2.2.length=v.length/\InR N (aN v o n a b q c).2.2:=by
 obtain⟨a,rfl⟩:∃k:Nat,a=k:=⟨a.toNat,by omega⟩
 obtain⟨b,rfl⟩:∃k:Nat,b=k:=⟨b.toNat,by omega⟩
 obtain⟨q,rfl⟩:∃k:Nat,q=k:=⟨q.toNat,by omega⟩
 have hz:=fP hw.1
 have e:=aOx (l:=v) (c:=c) (d:=kL v o n) hw.1 (by omega) hz (a:=a) (b:=b) (p:=q) (by omega) (by omega) (by omega)
 rw [nH hw.1] at e
 rw [e]
 obtain⟨r1,r2,r3,_⟩:=partition_holds (lt:=bK c) (mU c) (kL v o n) a b q (by omega) (by omega) (by omega)
 exact⟨by dsimp only;omega,pM hw.1 hi (a:=a) (b:=b) (by omega) r3⟩
theorem aTf (hw:o+n<=v.length/\v.length<=1048576)(hi:InR N v)(h:0<=a/\a<=q/\q < b/\b<=(n:Int)) :
 (a < (dE v o n a b q c).1/\(dE v o n a b q c).1<=b)/\(dE v o n a b q c).2.length=v.length/\InR N (dE v o n a b q c).2:=by
 obtain⟨a,rfl⟩:∃k:Nat,a=k:=⟨a.toNat,by omega⟩
 obtain⟨b,rfl⟩:∃k:Nat,b=k:=⟨b.toNat,by omega⟩
 obtain⟨q,rfl⟩:∃k:Nat,q=k:=⟨q.toNat,by omega⟩
 have hz:=fP hw.1
 have e:=aOy (l:=v) (c:=c) (d:=kL v o n) hw.1 (by omega) hz (a:=a) (b:=b) (p:=q) (by omega) (by omega) (by omega)
 rw [nH hw.1] at e
 rw [e]
 obtain⟨r1,r2,r3⟩:=aLp (d:=kL v o n) (bK c) (a:=a) (b:=b) (q:=q) (by omega) (by omega) (by omega)
 exact⟨by dsimp only;omega,pM hw.1 hi (a:=a) (b:=b) (by omega) r3⟩
end
end Go.Proofs.YtkdfcbmcgnaicaaGreat
