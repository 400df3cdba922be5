/-
  Parts of the proofs of the laws: the executor, what functions of the program compute, and that it is what the statements ask. No premise.
-/
import Derived.Test.YtkdfcbmcgnaicaaGreatVPap2
import Derived.ProofKit
import Derived.OpenShut
import Derived.Deep.Slices
import Derived.RowKit
set_option linter.unusedVariables false
set_option linter.unusedSimpArgs false
set_option maxHeartbeats 4000000
open Int renaming toNat → tN
open Inhabited renaming default → dF
namespace Go.Proofs.YtkdfcbmcgnaicaaGreat
open Go.Proofs Go.Aw Go.RowKit
set_option maxRecDepth 100000
def F64 (a0:Int)(a1:Int)(a2:Int):Bool :=
 (bif (decide ((a0:Int)≥a1)) then
  (decide ((a0:Int)<=a2))
 else
  false)
theorem C64 (a0:Int)(a1:Int)(a2:Int):Con Tryz.prog 64 [(iv a0),(iv a1),(iv a2)] [] (.v (.bool (F64 a0 a1 a2))) []:=by
 refine aY Tryz.func64 (by kernel_rfl) fun cx hcx=>?_
 cases h0:(decide ((a0:Int)≥a1)) with
 | true =>
  have q0:=cJ h0
  have e:=Eq.refl (F64 a0 a1 a2);conv at e=>rhs;simp only [F64,h0,aT]
  rw [e]
  exact rt [.d h0] [] [] hcx (by kernel_rfl)
 | false =>
  have q0:=cN h0
  have e:=Eq.refl (F64 a0 a1 a2);conv at e=>rhs;simp only [F64,h0,aT]
  rw [e]
  exact rt [.d h0] [] [] hcx (by kernel_rfl)
def xJ (a0:Int×Int):Bool :=
 (bif (decide ((a0.1:Int)≥(-1099511627776))) then
  (bif (decide ((a0.1:Int)<=a0.2)) then
   (decide ((a0.2:Int)<=1099511627776))
  else
   false)
 else
  false)
theorem C44 (a0:Int×Int):Con Tryz.prog 44 [(.a [(iv a0.1),(iv a0.2)])] [] (.v (.bool (xJ a0))) []:=by
 refine aY Tryz.func44 (by kernel_rfl) fun cx hcx=>?_
 cases h0:(decide ((a0.1:Int)≥(-1099511627776))) with
 | true =>
  have q0:=cJ h0
  let t1:List (St Tryz.prog):=[.d h0]
  cases h1:(decide ((a0.1:Int)<=a0.2)) with
  | true =>
   have q1:=cJ h1
   have e:=Eq.refl (xJ a0);conv at e=>rhs;simp only [xJ,h0,h1,aT]
   rw [e]
   exact rt (t1++[.d h1]) [] [] hcx (by kernel_rfl)
  | false =>
   have q1:=cN h1
   have e:=Eq.refl (xJ a0);conv at e=>rhs;simp only [xJ,h0,h1,aT]
   rw [e]
   exact rt (t1++[.d h1]) [] [] hcx (by kernel_rfl)
 | false =>
  have q0:=cN h0
  have e:=Eq.refl (xJ a0);conv at e=>rhs;simp only [xJ,h0,aT]
  rw [e]
  exact rt [.d h0] [] [] hcx (by kernel_rfl)
def aEh (a0:Zt)(a1:Zt):Zt :=
 ((W (a0.1 - a1.1)),(W (a0.2.1 - a1.2.1)),(W (a0.2.2 - a1.2.2)))
theorem aVd (a0:Zt)(a1:Zt):Con Tryz.prog 122 [(.a (k3 a0)),(.a (k3 a1))] [] (.a (k3 (aEh a0 a1))) []:=by
 refine aY Tryz.func122 (by kernel_rfl) fun cx hcx=>?_
 have e:=Eq.refl (aEh a0 a1);conv at e=>rhs;simp only [aEh]
 rw [e]
 exact rt [] [] [] hcx (by kernel_rfl)
def aOb (a0:Zt)(a1:Zt):Zt :=
 ((W ((W (a0.2.1*a1.2.2)) - (W (a0.2.2*a1.2.1)))),(W ((W (a0.2.2*a1.1)) - (W (a0.1*a1.2.2)))),(W ((W (a0.1*a1.2.1)) - (W (a0.2.1*a1.1)))))
theorem aW4 (a0:Zt)(a1:Zt):Con Tryz.prog 121 [(.a (k3 a0)),(.a (k3 a1))] [] (.a (k3 (aOb a0 a1))) []:=by
 refine aY Tryz.func121 (by kernel_rfl) fun cx hcx=>?_
 have e:=Eq.refl (aOb a0 a1);conv at e=>rhs;simp only [aOb]
 rw [e]
 exact rt [] [] [] hcx (by kernel_rfl)
def F99 (a0:Zt×Zt×Zt):Zt :=
 (aOb (aEh a0.2.1 a0.1) (aEh a0.2.2 a0.1))
theorem C99 (a0:Zt×Zt×Zt):Con Tryz.prog 99 [(.a (k9 a0))] [] (.a (k3 (F99 a0))) []:=by
 refine aY Tryz.func99 (by kernel_rfl) fun cx hcx=>?_
 have e:=Eq.refl (F99 a0);conv at e=>rhs;simp only [F99]
 rw [e]
 exact rt [.c [] (aVd a0.2.1 a0.1),.c [] (aVd a0.2.2 a0.1),.c [] (aW4 (aEh a0.2.1 a0.1) (aEh a0.2.2 a0.1))] [] [] hcx (by kernel_rfl)
def zQ (a0:Int)(a1:Int)(a2:Int):Bool :=
 (bif (decide ((a0:Int)≥a1)) then
  (decide ((a0:Int)<=a2))
 else
  false)
theorem aT2 (a0:Int)(a1:Int)(a2:Int):Con Tryz.prog 120 [(iv a0),(iv a1),(iv a2)] [] (.v (.bool (zQ a0 a1 a2))) []:=by
 refine aY Tryz.func120 (by kernel_rfl) fun cx hcx=>?_
 cases h0:(decide ((a0:Int)≥a1)) with
 | true =>
  have q0:=cJ h0
  have e:=Eq.refl (zQ a0 a1 a2);conv at e=>rhs;simp only [zQ,h0,aT]
  rw [e]
  exact rt [.d h0] [] [] hcx (by kernel_rfl)
 | false =>
  have q0:=cN h0
  have e:=Eq.refl (zQ a0 a1 a2);conv at e=>rhs;simp only [zQ,h0,aT]
  rw [e]
  exact rt [.d h0] [] [] hcx (by kernel_rfl)
def F98 (a0:Zt)(a1:Int):Bool :=
 (bif (zQ a0.1 (W (0 - a1)) a1) then
  (bif (zQ a0.2.1 (W (0 - a1)) a1) then
   (zQ a0.2.2 (W (0 - a1)) a1)
  else
   false)
 else
  false)
theorem C98 (a0:Zt)(a1:Int):Con Tryz.prog 98 [(.a (k3 a0)),(iv a1)] [] (.v (.bool (F98 a0 a1))) []:=by
 refine aY Tryz.func98 (by kernel_rfl) fun cx hcx=>?_
 let t0:List (St Tryz.prog):=[.c [] (aT2 a0.1 (W (0 - a1)) a1)]
 cases h0:(zQ a0.1 (W (0 - a1)) a1) with
 | true =>
  let t1:List (St Tryz.prog):=(t0++[.d h0,.c [] (aT2 a0.2.1 (W (0 - a1)) a1)])
  cases h1:(zQ a0.2.1 (W (0 - a1)) a1) with
  | true =>
   have e:=Eq.refl (F98 a0 a1);conv at e=>rhs;simp only [F98,h0,h1,aT]
   rw [e]
   exact rt (t1++[.d h1,.c [] (aT2 a0.2.2 (W (0 - a1)) a1)]) [] [] hcx (by kernel_rfl)
  | false =>
   have e:=Eq.refl (F98 a0 a1);conv at e=>rhs;simp only [F98,h0,h1,aT]
   rw [e]
   exact rt (t1++[.d h1]) [] [] hcx (by kernel_rfl)
 | false =>
  have e:=Eq.refl (F98 a0 a1);conv at e=>rhs;simp only [F98,h0,aT]
  rw [e]
  exact rt (t0++[.d h0]) [] [] hcx (by kernel_rfl)
def F78 (a0:Zt×Zt×Zt):Int :=
 (bif (!(F98 a0.1 64)) then
  1
 else
  (bif (!(F98 a0.2.1 64)) then
   1
  else
   (bif (!(F98 a0.2.2 64)) then
    1
   else
    (bif ((((F99 a0).1:Int) == 0)&&((((F99 a0).2.1:Int) == 0)&&((((F99 a0).2.2:Int) == 0)&&true))) then
     6
    else
     0))))
theorem C78 (a0:Zt×Zt×Zt):Con Tryz.prog 78 [(.a (k9 a0))] [] (iv (F78 a0)) []:=by
 refine aY Tryz.func78 (by kernel_rfl) fun cx hcx=>?_
 let t0:List (St Tryz.prog):=[.c [] (C98 a0.1 64)]
 cases h0:(!(F98 a0.1 64)) with
 | true =>
  have e:=Eq.refl (F78 a0);conv at e=>rhs;simp only [F78,h0,aT]
  rw [e]
  exact rt (t0++[.d h0]) [] [] hcx (by kernel_rfl)
 | false =>
  let t1:List (St Tryz.prog):=(t0++[.d h0,.c [] (C98 a0.2.1 64)])
  cases h1:(!(F98 a0.2.1 64)) with
  | true =>
   have e:=Eq.refl (F78 a0);conv at e=>rhs;simp only [F78,h0,h1,aT]
   rw [e]
   exact rt (t1++[.d h1]) [] [] hcx (by kernel_rfl)
  | false =>
   let t2:List (St Tryz.prog):=(t1++[.d h1,.c [] (C98 a0.2.2 64)])
   cases h2:(!(F98 a0.2.2 64)) with
   | true =>
    have e:=Eq.refl (F78 a0);conv at e=>rhs;simp only [F78,h0,h1,h2,aT]
    rw [e]
    exact rt (t2++[.d h2]) [] [] hcx (by kernel_rfl)
   | false =>
    let t3:List (St Tryz.prog):=(t2++[.d h2,.c [] (C99 a0)])
    cases h3:((((F99 a0).1:Int) == 0)&&((((F99 a0).2.1:Int) == 0)&&((((F99 a0).2.2:Int) == 0)&&true))) with
    | true =>
     have e:=Eq.refl (F78 a0);conv at e=>rhs;simp only [F78,h0,h1,h2,h3,aT]
     rw [e]
     exact rt (t3++[.d h3]) [] [] hcx (by kernel_rfl)
    | false =>
     have e:=Eq.refl (F78 a0);conv at e=>rhs;simp only [F78,h0,h1,h2,h3,aT]
     rw [e]
     exact rt (t3++[.d h3]) [] [] hcx (by kernel_rfl)
noncomputable def aEi:Code:=(aM [1,1,1,0,1] [] (aL Tryz.f67) []).1
noncomputable def aEj:List K:=(aM [1,1,1,0,1] [] (aL Tryz.f67) []).2
def aBf (a0:List (Int×Int))(v1 v2 v3:Int):LS:=⟨gD 39 [(0,(.s 0 0 a0.length 2)),(5,(iv v1)),(6,(iv v2)),(7,(iv v3))],[(.live false true (flat eW a0))]⟩
def lI (a0:List (Int×Int)):Zt->Zt⊕Zt
 | (v1,v2,v3) =>
  (bif (decide ((v3:Int) < (a0.length:Int))) then
   (bif (!(xJ (a0.getD (tN v3) dF))) then
    (.inr (0,0,1))
   else
    (.inl ((W (v1+(a0.getD (tN v3) dF).1)),(W (v2+(a0.getD (tN v3) dF).2)),(v3+1))))
  else
   (.inr (v1,v2,0)))
theorem aQ9 (a0:List (Int×Int))(l0:a0.length<=2^63-1) {cx:Cx} (hcx:cx.base=1):∀(n:Nat) (v1 v2 v3:Int),0<=v3->tN ((a0.length:Int) - v3) < n->Aw.Good Tryz.prog none 9 (bodyPost Tryz.prog Tryz.f67 (RR cx (.t (k3 (aH (lI a0) n (v1,v2,v3)))) [] [])) cx [] (.l aEi n::aEj) (aBf a0 v1 v2 v3):=by
 intro n
 induction n with
 | zero=>intro v1 v2 v3 hi hn;exact absurd hn (eI _)
 | succ n ih =>
  intro v1 v2 v3 hi hn
  refine aR ?_
  cases h0:(decide ((v3:Int) < (a0.length:Int))) with
  | true =>
   have q0:=cJ h0
   let t1:List (St Tryz.prog):=[.d h0,.i v3 (a0.length),.L dM a0 v3 0 2,.c [] (C44 (a0.getD (tN v3) dF))]
   cases h1:(!(xJ (a0.getD (tN v3) dF))) with
   | true =>
    have e:=Eq.refl (lI a0 (v1,v2,v3));conv at e=>rhs;simp only [lI,h0,h1,aT]
    rw [aJ,e]
    exact rt (t1++[.d h1]) [] [] hcx (by kernel_rfl)
   | false =>
    have e:=Eq.refl (lI a0 (v1,v2,v3));conv at e=>rhs;simp only [lI,h0,h1,aT]
    rw [aI e]
    refine ba (t1++[.d h1,.i v3 (a0.length),.L dM a0 v3 0 1,.i v3 (a0.length),.L dM a0 v3 1 1]) [] [0,5,6,7] [] hcx (m:=n) aEi (aEj) (aBf a0 (W (v1+(a0.getD (tN v3) dF).1)) (W (v2+(a0.getD (tN v3) dF).2)) (W (v3+1))) (by kernel_rfl) ?_
    have z0:(W (v3+1))=(v3+1):=aS (by omega) (by omega)
    rw [z0]
    exact ih (W (v1+(a0.getD (tN v3) dF).1)) (W (v2+(a0.getD (tN v3) dF).2)) (v3+1) (by omega) (by omega)
  | false =>
   have q0:=cN h0
   have e:=Eq.refl (lI a0 (v1,v2,v3));conv at e=>rhs;simp only [lI,h0,aT]
   rw [aJ,e]
   exact rt [.d h0] [] [] hcx (by kernel_rfl)
def mF (a0:List (Int×Int)):Zt :=
 (bif (decide (((a0.length:Int):Int) > 10000)) then
  (0,0,4)
 else
  (aH (lI a0) (tN ((a0.length:Int) - 0)+1) (0,0,0)))
theorem aVe (a0:List (Int×Int))(l0:a0.length<=2^63-1):Con Tryz.prog 67 [(.s 0 0 a0.length 2)] [(.live false true (flat eW a0))] (.t (k3 (mF a0))) []:=by
 refine aY Tryz.func67 (by kernel_rfl) fun cx hcx=>?_
 cases h0:(decide (((a0.length:Int):Int) > 10000)) with
 | true =>
  have q0:=cJ h0
  have e:=Eq.refl (mF a0);conv at e=>rhs;simp only [mF,h0,aT]
  rw [e]
  exact rt [.d h0] [] [] hcx (by kernel_rfl)
 | false =>
  have q0:=cN h0
  have e:=Eq.refl (mF a0);conv at e=>rhs;simp only [mF,h0,aT]
  rw [e]
  refine en [.d h0] [] [0,5,6,7] [] hcx aEi (aEj) (aBf a0 0 0 0) (tN ((a0.length:Int) - 0)+1) (by kernel_rfl) ?_
  exact aQ9 a0 l0 hcx (tN ((a0.length:Int) - 0)+1) 0 0 0 (by omega) (by omega)
def F65 (a0:Int)(a1:Int):(Int×Int)×Int :=
 (bif (!(xJ (a0,a1))) then
  ((0,0),4)
 else
  ((a0,a1),0))
theorem C65 (a0:Int)(a1:Int):Con Tryz.prog 65 [(iv a0),(iv a1)] [] (.t [(.a (k2 (F65 a0 a1).1)),(iv (F65 a0 a1).2)]) []:=by
 refine aY Tryz.func65 (by kernel_rfl) fun cx hcx=>?_
 let t0:List (St Tryz.prog):=[.c [] (C44 (a0,a1))]
 cases h0:(!(xJ (a0,a1))) with
 | true =>
  have e:=Eq.refl (F65 a0 a1);conv at e=>rhs;simp only [F65,h0,aT]
  rw [e]
  exact rt (t0++[.d h0]) [] [] hcx (by kernel_rfl)
 | false =>
  have e:=Eq.refl (F65 a0 a1);conv at e=>rhs;simp only [F65,h0,aT]
  rw [e]
  exact rt (t0++[.d h0]) [] [] hcx (by kernel_rfl)
def jH (a0:List (Int×Int)):(Int×Int)×Int :=
 (bif (((mF a0).2.2:Int) != 0) then
  ((0,0),(mF a0).2.2)
 else
  ((F65 (mF a0).1 (mF a0).2.1).1,(F65 (mF a0).1 (mF a0).2.1).2))
theorem aVf (a0:List (Int×Int))(l0:a0.length<=2^63-1):Con Tryz.prog 46 [(.s 0 0 a0.length 2)] [(.live false true (flat eW a0))] (.t [(.a (k2 (jH a0).1)),(iv (jH a0).2)]) []:=by
 refine aY Tryz.func46 (by kernel_rfl) fun cx hcx=>?_
 let t0:List (St Tryz.prog):=[.c [0] (aVe a0 (by omega))]
 cases h0:(((mF a0).2.2:Int) != 0) with
 | true =>
  have q0:=bne_iff_ne.1 h0
  have e:=Eq.refl (jH a0);conv at e=>rhs;simp only [jH,h0,aT]
  rw [e]
  exact rt (t0++[.d h0]) [] [] hcx (by kernel_rfl)
 | false =>
  have q0:=bne_eq_false_iff_eq.1 h0
  have e:=Eq.refl (jH a0);conv at e=>rhs;simp only [jH,h0,aT]
  rw [e]
  exact rt (t0++[.d h0,.c [] (C65 (mF a0).1 (mF a0).2.1)]) [] [] hcx (by kernel_rfl)
def F79 (a0:Int)(a1:Int)(a2:Int):Bool :=
 (bif (decide ((a0:Int)≥a1)) then
  (decide ((a0:Int)<=a2))
 else
  false)
theorem C79 (a0:Int)(a1:Int)(a2:Int):Con Tryz.prog 79 [(iv a0),(iv a1),(iv a2)] [] (.v (.bool (F79 a0 a1 a2))) []:=by
 refine aY Tryz.func79 (by kernel_rfl) fun cx hcx=>?_
 cases h0:(decide ((a0:Int)≥a1)) with
 | true =>
  have q0:=cJ h0
  have e:=Eq.refl (F79 a0 a1 a2);conv at e=>rhs;simp only [F79,h0,aT]
  rw [e]
  exact rt [.d h0] [] [] hcx (by kernel_rfl)
 | false =>
  have q0:=cN h0
  have e:=Eq.refl (F79 a0 a1 a2);conv at e=>rhs;simp only [F79,h0,aT]
  rw [e]
  exact rt [.d h0] [] [] hcx (by kernel_rfl)
noncomputable def aEk:Code:=(aM [1,1,0,1] [] (aL Tryz.f60) []).1
noncomputable def aEl:List K:=(aM [1,1,0,1] [] (aL Tryz.f60) []).2
def aBg (a0:bO)(v1:Int):LS:=⟨gD 30 [(0,(.s 0 0 a0.length 10)),(3,(iv v1))],[(.live false true (flat dC a0))]⟩
def jP (a0:bO):Int->(Int)⊕(Int)
 | v1 =>
  (bif (decide ((v1:Int) < (a0.length:Int))) then
   (bif (((F78 (a0.getD (tN v1) dF).1):Int) != 0) then
    (.inr (F78 (a0.getD (tN v1) dF).1))
   else
    (bif (!(F79 (a0.getD (tN v1) dF).2 (-100) 100)) then
     (.inr 1)
    else
     (.inl (v1+1))))
  else
   (.inr 0))
theorem aRa (a0:bO)(l0:a0.length<=2^63-1) {cx:Cx} (hcx:cx.base=1):∀(n:Nat) (v1:Int),0<=v1->tN ((a0.length:Int) - v1) < n->Aw.Good Tryz.prog none 9 (bodyPost Tryz.prog Tryz.f60 (RR cx (iv (aH (jP a0) n v1)) [] [])) cx [] (.l aEk n::aEl) (aBg a0 v1):=by
 intro n
 induction n with
 | zero=>intro v1 hi hn;exact absurd hn (eI _)
 | succ n ih =>
  intro v1 hi hn
  refine aR ?_
  cases h0:(decide ((v1:Int) < (a0.length:Int))) with
  | true =>
   have q0:=cJ h0
   let t1:List (St Tryz.prog):=[.d h0,.i v1 (a0.length),.L eC a0 v1 0 9,.c [] (C78 (a0.getD (tN v1) dF).1)]
   cases h1:(((F78 (a0.getD (tN v1) dF).1):Int) != 0) with
   | true =>
    have q1:=bne_iff_ne.1 h1
    have e:=Eq.refl (jP a0 v1);conv at e=>rhs;simp only [jP,h0,h1,aT]
    rw [aJ,e]
    exact rt (t1++[.d h1]) [] [] hcx (by kernel_rfl)
   | false =>
    have q1:=bne_eq_false_iff_eq.1 h1
    let t2:List (St Tryz.prog):=(t1++[.d h1,.i v1 (a0.length),.L eC a0 v1 9 1,.c [] (C79 (a0.getD (tN v1) dF).2 (-100) 100)])
    cases h2:(!(F79 (a0.getD (tN v1) dF).2 (-100) 100)) with
    | true =>
     have e:=Eq.refl (jP a0 v1);conv at e=>rhs;simp only [jP,h0,h1,h2,aT]
     rw [aJ,e]
     exact rt (t2++[.d h2]) [] [] hcx (by kernel_rfl)
    | false =>
     have e:=Eq.refl (jP a0 v1);conv at e=>rhs;simp only [jP,h0,h1,h2,aT]
     rw [aI e]
     refine ba (t2++[.d h2]) [] [0,3] [] hcx (m:=n) aEk (aEl) (aBg a0 (W (v1+1))) (by kernel_rfl) ?_
     have z0:(W (v1+1))=(v1+1):=aS (by omega) (by omega)
     rw [z0]
     exact ih (v1+1) (by omega) (by omega)
  | false =>
   have q0:=cN h0
   have e:=Eq.refl (jP a0 v1);conv at e=>rhs;simp only [jP,h0,aT]
   rw [aJ,e]
   exact rt [.d h0] [] [] hcx (by kernel_rfl)
def kW (a0:bO):Int :=
 (bif (decide (((a0.length:Int):Int) > 96)) then
  4
 else
  (aH (jP a0) (tN ((a0.length:Int) - 0)+1) 0))
theorem aS3 (a0:bO)(l0:a0.length<=2^63-1):Con Tryz.prog 60 [(.s 0 0 a0.length 10)] [(.live false true (flat dC a0))] (iv (kW a0)) []:=by
 refine aY Tryz.func60 (by kernel_rfl) fun cx hcx=>?_
 cases h0:(decide (((a0.length:Int):Int) > 96)) with
 | true =>
  have q0:=cJ h0
  have e:=Eq.refl (kW a0);conv at e=>rhs;simp only [kW,h0,aT]
  rw [e]
  exact rt [.d h0] [] [] hcx (by kernel_rfl)
 | false =>
  have q0:=cN h0
  have e:=Eq.refl (kW a0);conv at e=>rhs;simp only [kW,h0,aT]
  rw [e]
  refine en [.d h0] [] [0,3] [] hcx aEk (aEl) (aBg a0 0) (tN ((a0.length:Int) - 0)+1) (by kernel_rfl) ?_
  exact aRa a0 l0 hcx (tN ((a0.length:Int) - 0)+1) 0 (by omega) (by omega)
end Go.Proofs.YtkdfcbmcgnaicaaGreat
namespace Go.Proofs.YtkdfcbmcgnaicaaGreat
open Go.Proofs Go.Aw Go.RowKit
set_option maxRecDepth 100000
def aXo (n r:Int):Prop:=0<=r/\r*r<=n/\n < (r+1)*(r+1)
abbrev P3:=Zt
abbrev PN:=P3×P3×P3
def bd (m:Int)(p:P3):Prop:=(-m<=p.1/\p.1<=m)/\(-m<=p.2.1/\p.2.1<=m)/\(-m<=p.2.2/\p.2.2<=m)
def bdP (m:Int)(p:PN):Prop:=bd m p.1/\bd m p.2.1/\bd m p.2.2
def sb (p q:P3):P3:=(p.1 - q.1,p.2.1 - q.2.1,p.2.2 - q.2.2)
def dt (p q:P3):Int:=p.1*q.1+p.2.1*q.2.1+p.2.2*q.2.2
def cr (p q:P3):P3:=(p.2.1*q.2.2 - p.2.2*q.2.1,p.2.2*q.1 - p.1*q.2.2,p.1*q.2.1 - p.2.1*q.1)
def nrm (p:PN):P3:=cr (sb p.2.1 p.1) (sb p.2.2 p.1)
theorem oK {a b x y:Int} (hx:-a<=x/\x<=a)(hy:-b<=y/\y<=b):-(a*b)<=x*y/\x*y<=a*b:=by
 have h1:=Int.mul_nonneg (show 0<=a - x by omega) (show 0<=b - y by omega)
 have h2:=Int.mul_nonneg (show 0<=a+x by omega) (show 0<=b+y by omega)
 have h3:=Int.mul_nonneg (show 0<=a - x by omega) (show 0<=b+y by omega)
 have h4:=Int.mul_nonneg (show 0<=a+x by omega) (show 0<=b - y by omega)
 rw [Int.sub_mul,Int.mul_sub,Int.mul_sub] at h1
 rw [Int.add_mul,Int.mul_add,Int.mul_add] at h2
 rw [Int.sub_mul,Int.mul_add,Int.mul_add] at h3
 rw [Int.add_mul,Int.mul_sub,Int.mul_sub] at h4
 omega
theorem aK1 {a b:Int} {p q:P3} (hp:bd a p)(hq:bd b q):bd (a+b) (sb p q):=by
 unfold bd at *;simp only [sb];omega
theorem aK2 (x:Int):0<=x*x:=by
 rcases Int.le_total 0 x with h | h
 ·exact Int.mul_nonneg h h
 ·exact Int.mul_nonneg_of_nonpos_of_nonpos h h
theorem aT3 {p:P3} (h:¬(p.1=0/\p.2.1=0/\p.2.2=0)):1<=dt p p:=by
 have:=aK2 p.1;have:=aK2 p.2.1;have:=aK2 p.2.2
 have key:∀x:Int,x≠0->1<=x*x:=fun x hx=>by
  have h0:=aK2 x
  have:x*x≠0:=Int.mul_ne_zero hx hx
  omega
 simp only [dt]
 by_cases h1:p.1=0
 ·by_cases h2:p.2.1=0
  ·have:=key p.2.2 (fun h3=>h ⟨h1,h2,h3⟩);omega
  ·have:=key _ h2;omega
 ·have:=key _ h1;omega
theorem rsb {p q:P3} (hp:bd 100000 p)(hq:bd 100000 q):aEh p q=sb p q:=by
 unfold bd at *;simp only [aEh,sb]
 rw [aS (by omega) (by omega),aS (by omega) (by omega),aS (by omega) (by omega)]
theorem aVg {p q:P3} (hp:bd 1000000000 p)(hq:bd 1000000000 q) :
 ((W ((W (p.2.1*q.2.2)) - (W (p.2.2*q.2.1)))),(W ((W (p.2.2*q.1)) - (W (p.1*q.2.2)))),(W ((W (p.1*q.2.1)) - (W (p.2.1*q.1)))))=cr p q:=by
 have h1:=oK hp.2.1 hq.2.2;have h2:=oK hp.2.2 hq.2.1;have h3:=oK hp.2.2 hq.1;have h4:=oK hp.1 hq.2.2;have h5:=oK hp.1 hq.2.1;have h6:=oK hp.2.1 hq.1
 simp only [cr]
 rw [aS (n:=p.2.1*q.2.2) (by omega) (by omega),aS (n:=p.2.2*q.2.1) (by omega) (by omega),aS (n:=p.2.2*q.1) (by omega) (by omega),aS (n:=p.1*q.2.2) (by omega) (by omega),aS (n:=p.1*q.2.1) (by omega) (by omega),aS (n:=p.2.1*q.1) (by omega) (by omega),
  aS (by omega) (by omega),aS (by omega) (by omega),aS (by omega) (by omega)]
theorem scr {p q:P3} (hp:bd 1000000000 p)(hq:bd 1000000000 q):F86 p q=cr p q:=aVg hp hq
theorem rcr {p q:P3} (hp:bd 1000000000 p)(hq:bd 1000000000 q):aOb p q=cr p q:=aVg hp hq
theorem ssb {p q:P3} (hp:bd 100000 p)(hq:bd 100000 q):F87 p q=sb p q:=by
 unfold bd at *;simp only [F87,aN9,sb]
 rw [aS (n:=-1*q.1) (by omega) (by omega),aS (n:=-1*q.2.1) (by omega) (by omega),aS (n:=-1*q.2.2) (by omega) (by omega),aS (by omega) (by omega),aS (by omega) (by omega),aS (by omega) (by omega)]
 refine Prod.ext (by simp only;omega) (Prod.ext (by simp only;omega) (by simp only;omega))
theorem bd.mono {a b:Int} {p:P3} (h:bd a p)(hab:a<=b):bd b p:=by unfold bd at *;omega
theorem aI5 (n a b:Int):F64 n a b=decide (a<=n/\n<=b):=by
 unfold F64
 by_cases h1:n≥a<;>by_cases h2:n<=b<;>simp [h1,h2]<;>omega
theorem uE (n a b:Int):zQ n a b=decide (a<=n/\n<=b):=by
 unfold zQ
 by_cases h1:n≥a<;>by_cases h2:n<=b<;>simp [h1,h2]<;>omega
theorem aEm (n a b:Int):F85 n a b=decide (a<=n/\n<=b):=by
 unfold F85
 by_cases h1:a<=n<;>by_cases h2:n<=b<;>simp [h1,h2]
theorem aVh {a b c d:Prop} [Decidable a] [Decidable b] [Decidable c] [Decidable d] (h:(a/\b/\c)↔d):(bif decide a then(bif decide b then decide c else false) else false)=decide d:=by
 by_cases h1:a
 ·by_cases h2:b
  ·rw [cH h1,cH h2,cond_true,cond_true]
   by_cases h3:c
   ·rw [cH h3,cH (h.1 ⟨h1,h2,h3⟩)]
   ·rw [dA h3,dA (fun hd=>h3 (h.2 hd).2.2)]
  ·rw [cH h1,dA h2,cond_true,cond_false,dA (fun hd=>h2 (h.2 hd).2.1)]
 ·rw [dA h1,cond_false,dA (fun hd=>h1 (h.2 hd).1)]
theorem eq3 (x y z a b:Int):(bif (((x:Int) == 0)&&(((y:Int) == 0)&&(((z:Int) == 0)&&true))) then a else b)=if x=0/\y=0/\z=0 then a else b:=by
 have key:∀t:Int,(t == 0)=decide (t=0):=fun t=>by
  by_cases h:t=0
  ·rw [cH h];simpa using h
  ·rw [dA h];simpa using h
 rw [key,key,key,Bool.and_true,←Bool.decide_and,←Bool.decide_and]
 by_cases h:x=0/\y=0/\z=0
 ·rw [if_pos h,cH h,cond_true]
 ·rw [if_neg h,dA h,cond_false]
open Classical in
theorem uF (p:P3):F68 p 64=decide (bd 64 p):=by
 unfold F68
 rw [aEm,aEm,aEm,aS (by omega) (by omega)]
 exact aVh (by unfold bd;omega)
open Classical in
theorem xK (p:P3):F98 p 64=decide (bd 64 p):=by
 unfold F98
 rw [uE,uE,uE,aS (by omega) (by omega)]
 exact aVh (by unfold bd;omega)
open Classical in
noncomputable def vp (p:PN):Int:=if bdP 64 p then(if(nrm p).1=0/\(nrm p).2.1=0/\(nrm p).2.2=0 then 6 else 0) else 1
theorem aVi {p:PN} (h:bdP 64 p):F69 p=nrm p:=by
 have h1:=h.1.mono (show(64:Int)<=100000 by omega);have h2:=h.2.1.mono (show(64:Int)<=100000 by omega);have h3:=h.2.2.mono (show(64:Int)<=100000 by omega)
 unfold F69 nrm
 rw [ssb h2 h1,ssb h3 h1]
 exact scr ((aK1 h.2.1 h.1).mono (by omega)) ((aK1 h.2.2 h.1).mono (by omega))
theorem aVj {p:PN} (h:bdP 64 p):F99 p=nrm p:=by
 have h1:=h.1.mono (show(64:Int)<=100000 by omega);have h2:=h.2.1.mono (show(64:Int)<=100000 by omega);have h3:=h.2.2.mono (show(64:Int)<=100000 by omega)
 unfold F99 nrm
 rw [rsb h2 h1,rsb h3 h1]
 exact rcr ((aK1 h.2.1 h.1).mono (by omega)) ((aK1 h.2.2 h.1).mono (by omega))
theorem aVk (p:PN):F47 p=vp p:=by
 unfold F47 vp
 rw [uF,uF,uF]
 by_cases h1:bd 64 p.1
 ·by_cases h2:bd 64 p.2.1
  ·by_cases h3:bd 64 p.2.2
   ·have hb:bdP 64 p:=⟨h1,h2,h3⟩
    rw [aVi hb,if_pos hb]
    rw [eq3];simp [h1,h2,h3]
   ·simp [h1,h2,h3,bdP]
  ·simp [h1,h2,bdP]
 ·simp [h1,bdP]
theorem aW5 (p:PN):F78 p=vp p:=by
 unfold F78 vp
 rw [xK,xK,xK]
 by_cases h1:bd 64 p.1
 ·by_cases h2:bd 64 p.2.1
  ·by_cases h3:bd 64 p.2.2
   ·have hb:bdP 64 p:=⟨h1,h2,h3⟩
    rw [aVj hb,if_pos hb]
    rw [eq3];simp [h1,h2,h3]
   ·simp [h1,h2,h3,bdP]
  ·simp [h1,h2,bdP]
 ·simp [h1,bdP]
theorem aVl {p:PN} (h:vp p=0):bdP 64 p/\1<=dt (nrm p) (nrm p):=by
 unfold vp at h
 split at h
 ·rename_i hb
  split at h
  ·cases h
  ·rename_i hn;exact⟨hb,aT3 hn⟩
 ·cases h
end Go.Proofs.YtkdfcbmcgnaicaaGreat
namespace Go.Proofs.YtkdfcbmcgnaicaaGreat
open Go.Proofs Go.Aw Go.RowKit
set_option maxRecDepth 100000
def mx (a b:Int):Int:=if a < b then b else a
def ds (p q:P3):Int:=dt (sb p q) (sb p q)
def lo3 (a b c:Int):Int:=if c < (if b < (if a < a then a else a) then b else(if a < a then a else a)) then c else(if b < (if a < a then a else a) then b else(if a < a then a else a))
def hi3 (a b c:Int):Int:=if(if(if a < a then a else a) < b then b else(if a < a then a else a)) < c then c else(if(if a < a then a else a) < b then b else(if a < a then a else a))
def gp (a b c d:Int):Int:=mx (mx 0 (c - b)) (a - d)
def nr (a b c d:P3):Int:=gp a.1 b.1 c.1 d.1*gp a.1 b.1 c.1 d.1+gp a.2.1 b.2.1 c.2.1 d.2.1*gp a.2.1 b.2.1 c.2.1 d.2.1+gp a.2.2 b.2.2 c.2.2 d.2.2*gp a.2.2 b.2.2 c.2.2 d.2.2
def blo (c:PN):P3:=(lo3 c.1.1 c.2.1.1 c.2.2.1,lo3 c.1.2.1 c.2.1.2.1 c.2.2.2.1,lo3 c.1.2.2 c.2.1.2.2 c.2.2.2.2)
def bhi (c:PN):P3:=(hi3 c.1.1 c.2.1.1 c.2.2.1,hi3 c.1.2.1 c.2.1.2.1 c.2.2.2.1,hi3 c.1.2.2 c.2.1.2.2 c.2.2.2.2)
open Go.ChangeShapes Go.WideShapes Go.ChangeAt
section
variable {H : Type} {enc : TypeId × Value → H} {P : Program} {w : World} {base : Nat} {spare : Nat → Bool} {held : Bool}
end
theorem aI6 {H:Type} {enc:TypeId×Value->H} {P:Program} {f:Func} {s:ChangeSpec} {apart fresh handsOn:Bool} {W W':World} {args:Array Value} {v:Value} {ds gs:List (DataW H)} {before:List MemPlace}
 (hW:DataW.Whole enc P f.params.toList s.vars apart W args.toList ds gs before) (hb:Below W.heap.size W W')
 (hres:∀(b:Nat) (sp:Nat->Bool) (hd:Bool),DataW.TrodAll enc P W' b sp hd f.resultTypes.toList (v.resultList f.resultTypes.size) (s.fn H (ds++gs)).results [])
 (hargs:DataW.TrodAll enc P W' 0 (fun b=>decide (b < W.heap.size)) true f.params.toList args.toList (s.fn H (ds++gs)).args before)
 (hvars:DataW.TrodVars enc P W' (fun b=>decide (b < W.heap.size)) s.vars (s.fn H (ds++gs)).vars []) :
 s.post enc P f apart fresh handsOn false W args v W' :=
 ⟨ds,gs,before,[],before,[],hW,hres _ _ _,hargs,hvars,hb.frame _,fun h=>by cases h⟩
theorem aI7 {H:Type} {enc:TypeId×Value->H} {P:Program} {w:World} {base:Nat} {spare:Nat->Bool} {held:Bool} {t:TypeId} {ts:List TypeId} {v:Value} {vs:List Value} {d:DataW H} {ds:List (DataW H)} {p p':List MemPlace}
 (h:DataW.Trod enc P w base spare held t v d p) (h':DataW.TrodAll enc P w base spare held ts vs ds p'):DataW.TrodAll enc P w base spare held (t::ts) (v::vs) (d::ds) (p++p'):=⟨p,p',h,h',rfl⟩
theorem own:ownKnob Tryz.prog.godebug=none:=by kernel_rfl
theorem aK3:laidOutB Tryz.prog=true:=by kernel_rfl
end Go.Proofs.YtkdfcbmcgnaicaaGreat
namespace Go.Proofs.YtkdfcbmcgnaicaaGreat
open Go.Proofs Go.Aw Go.RowKit
set_option maxRecDepth 100000
theorem d4 {d:Int} (h:0<=d/\d<=3):d=0\/d=1\/d=2\/d=3:=by omega
theorem aVm {a b:Int} (h1:-1099511627776<=a)(h2:a<=b)(h3:b<=1099511627776):F58 a b=((a,b),0):=by
 unfold F58 F37
 rw [cH (show(a,b).1≥-1099511627776 from h1),cH (show(a,b).1<=(a,b).2 from h2),cH (show(a,b).2<=1099511627776 from h3)];rfl
theorem aT4 {N n:Int} (hN:0<=N)(hn:1<=n):0<=N / n/\N / n<=N/\(N / n)*n<=N:=by
 have h1:0<=N / n:=Int.ediv_nonneg hN (by omega)
 have h2:(N / n)*n<=N:=Int.ediv_mul_le N (by omega)
 have h3:(N / n)*1<=(N / n)*n:=Int.mul_le_mul_of_nonneg_left hn h1
 omega
def fa (c:PN)(x:P3):Int:=mx (mx (mx 0 (ds c.1 x)) (ds c.2.1 x)) (ds c.2.2 x)
def ne (c:PN)(x:P3):Int:=nr (blo c) (bhi c) x x
noncomputable def acc (of:Int->Int×Int)(x:P3):List PN->Int×Int->(Int×Int)⊕((Int×Int)×Int)
 | [],v=>.inl v
 | c::l,v=>if ne c x=0 then .inr ((0,0),10) else acc of x l (v.1+(of (fa c x)).1,v.2+(of (ne c x)).2)
theorem aOc {a b:Int} (h1:-1099511627776<=a)(h2:a<=b)(h3:b<=1099511627776):F37 (a,b)=true:=by
 unfold F37
 rw [cH (show(a,b).1≥-1099511627776 from h1),cH (show(a,b).1<=(a,b).2 from h2),cH (show(a,b).2<=1099511627776 from h3)];rfl
section
variable {p : PN} {x : P3} {d : Int}
end
end Go.Proofs.YtkdfcbmcgnaicaaGreat
namespace Go.Proofs.YtkdfcbmcgnaicaaGreat
open Go.Proofs Go.Aw Go.RowKit
set_option maxRecDepth 100000
def aXp (T r:Int):Prop:=0<=r/\T<=r*r/\(r=0\/(r - 1)*(r - 1) < T)
section
variable {p q : PN} {d : Int}
end
end Go.Proofs.YtkdfcbmcgnaicaaGreat
namespace Go.Proofs.YtkdfcbmcgnaicaaGreat
open Go.Proofs Go.Aw Go.RowKit
set_option maxRecDepth 100000
theorem aS4 {a:Int×Int} (h:((pK a:Int) != 0)=false):-1099511627776<=a.1/\a.1<=a.2/\a.2<=1099511627776:=by
 have h:pK a=0:=by simpa using h
 unfold pK at h
 cases h0:F37 a with
 | false=>rw [h0] at h;cases h
 | true =>
  unfold F37 at h0
  by_cases h1:a.1≥-1099511627776
  ·by_cases h2:a.1<=a.2
   ·rw [cH h1,cond_true,cH h2,cond_true] at h0
    exact⟨h1,h2,cJ h0⟩
   ·rw [cH h1,cond_true,dA h2,cond_false] at h0;cases h0
  ·rw [dA h1,cond_false] at h0;cases h0
def F56 (a0:Int):Bool :=
 (bif (decide ((a0:Int)≥(-1099511627776))) then
  (decide ((a0:Int)<=1099511627776))
 else
  false)
theorem C56 (a0:Int):Con Tryz.prog 56 [(iv a0)] [] (.v (.bool (F56 a0))) []:=by
 refine aY Tryz.func56 (by kernel_rfl) fun cx hcx=>?_
 cases h0:(decide ((a0:Int)≥(-1099511627776))) with
 | true =>
  have q0:=cJ h0
  have e:=Eq.refl (F56 a0);conv at e=>rhs;simp only [F56,h0,aT]
  rw [e]
  exact rt [.d h0] [] [] hcx (by kernel_rfl)
 | false =>
  have q0:=cN h0
  have e:=Eq.refl (F56 a0);conv at e=>rhs;simp only [F56,h0,aT]
  rw [e]
  exact rt [.d h0] [] [] hcx (by kernel_rfl)
def wX (a0:Int×Int)(a1:Int):(Int×Int)×Int :=
 (bif (((pK a0):Int) != 0) then
  ((0,0),(pK a0))
 else
  (bif (!(F56 a1)) then
   ((0,0),1)
  else
   ((F58 (if((rL a0.2 a1):Int) < (rL a0.1 a1) then(rL a0.2 a1) else(rL a0.1 a1)) (if((rL a0.1 a1):Int) < (rL a0.2 a1) then(rL a0.2 a1) else(rL a0.1 a1))).1,(F58 (if((rL a0.2 a1):Int) < (rL a0.1 a1) then(rL a0.2 a1) else(rL a0.1 a1)) (if((rL a0.1 a1):Int) < (rL a0.2 a1) then(rL a0.2 a1) else(rL a0.1 a1))).2)))
theorem C38 (a0:Int×Int)(a1:Int):Con Tryz.prog 38 [(.a [(iv a0.1),(iv a0.2)]),(iv a1)] [] (.t [(.a (k2 (wX a0 a1).1)),(iv (wX a0 a1).2)]) []:=by
 refine aY Tryz.func38 (by kernel_rfl) fun cx hcx=>?_
 let t0:List (St Tryz.prog):=[.c [2] (aVc a0)]
 cases h0:(((pK a0):Int) != 0) with
 | true =>
  have q0:=bne_iff_ne.1 h0
  have e:=Eq.refl (wX a0 a1);conv at e=>rhs;simp only [wX,h0,aT]
  rw [e]
  exact rt (t0++[.d h0]) [] [] hcx (by kernel_rfl)
 | false =>
  have q0:=bne_eq_false_iff_eq.1 h0
  let t1:List (St Tryz.prog):=(t0++[.d h0,.c [] (C56 a1)])
  cases h1:(!(F56 a1)) with
  | true =>
   have e:=Eq.refl (wX a0 a1);conv at e=>rhs;simp only [wX,h0,h1,aT]
   rw [e]
   exact rt (t1++[.d h1]) [] [] hcx (by kernel_rfl)
  | false =>
   have e:=Eq.refl (wX a0 a1);conv at e=>rhs;simp only [wX,h0,h1,aT]
   rw [e]
   exact rt (t1++[.d h1,.c [] (C57 a0.1 a1  (by have:=aS4 h0;omega)),.c [] (C57 a0.2 a1  (by have:=aS4 h0;omega)),.c [] (C58 (if((rL a0.2 a1):Int) < (rL a0.1 a1) then(rL a0.2 a1) else(rL a0.1 a1)) (if((rL a0.1 a1):Int) < (rL a0.2 a1) then(rL a0.2 a1) else(rL a0.1 a1)))]) [] [] hcx (by kernel_rfl)
def F84 (a0:Int):Int :=
 (bif (decide ((a0:Int) < 0)) then
  (IntKind.wrap .u64 (W (0 - a0)))
 else
  (IntKind.wrap .u64 a0))
theorem C84 (a0:Int):Con Tryz.prog 84 [(iv a0)] [] (.v (.int .u64 (F84 a0))) []:=by
 refine aY Tryz.func84 (by kernel_rfl) fun cx hcx=>?_
 cases h0:(decide ((a0:Int) < 0)) with
 | true =>
  have q0:=cJ h0
  have e:=Eq.refl (F84 a0);conv at e=>rhs;simp only [F84,h0,aT]
  rw [e]
  exact rt [.d h0] [] [] hcx (by kernel_rfl)
 | false =>
  have q0:=cN h0
  have e:=Eq.refl (F84 a0);conv at e=>rhs;simp only [F84,h0,aT]
  rw [e]
  exact rt [.d h0] [] [] hcx (by kernel_rfl)
def F83 (a0:Int)(a1:Int):Int×Int :=
 ((IntKind.wrap .u64 ((IntKind.wrap .u64 ((IntKind.wrap .u64 ((Int.fdiv a0 (2 ^ (min (tN 32) 64)))*(Int.fdiv a1 (2 ^ (min (tN 32) 64)))))+(Int.fdiv (IntKind.wrap .u64 ((IntKind.wrap .u64 ((Int.fdiv a0 (2 ^ (min (tN 32) 64)))*(IntKind.wrap .u64 ((BitVec.ofInt 64 a1 &&& BitVec.ofInt 64 4294967295).toNat:Int))))+(Int.fdiv (IntKind.wrap .u64 ((IntKind.wrap .u64 ((BitVec.ofInt 64 a0 &&& BitVec.ofInt 64 4294967295).toNat:Int))*(IntKind.wrap .u64 ((BitVec.ofInt 64 a1 &&& BitVec.ofInt 64 4294967295).toNat:Int)))) (2 ^ (min (tN 32) 64))))) (2 ^ (min (tN 32) 64)))))+(Int.fdiv (IntKind.wrap .u64 ((IntKind.wrap .u64 ((BitVec.ofInt 64 (IntKind.wrap .u64 ((IntKind.wrap .u64 ((Int.fdiv a0 (2 ^ (min (tN 32) 64)))*(IntKind.wrap .u64 ((BitVec.ofInt 64 a1 &&& BitVec.ofInt 64 4294967295).toNat:Int))))+(Int.fdiv (IntKind.wrap .u64 ((IntKind.wrap .u64 ((BitVec.ofInt 64 a0 &&& BitVec.ofInt 64 4294967295).toNat:Int))*(IntKind.wrap .u64 ((BitVec.ofInt 64 a1 &&& BitVec.ofInt 64 4294967295).toNat:Int)))) (2 ^ (min (tN 32) 64))))) &&& BitVec.ofInt 64 4294967295).toNat:Int))+(IntKind.wrap .u64 ((IntKind.wrap .u64 ((BitVec.ofInt 64 a0 &&& BitVec.ofInt 64 4294967295).toNat:Int))*(Int.fdiv a1 (2 ^ (min (tN 32) 64))))))) (2 ^ (min (tN 32) 64))))),(IntKind.wrap .u64 (a0*a1)))
theorem C83 (a0:Int)(a1:Int):Con Tryz.prog 83 [(.v (.int .u64 a0)),(.v (.int .u64 a1))] [] (.t [(.v (.int .u64 (F83 a0 a1).1)),(.v (.int .u64 (F83 a0 a1).2))]) []:=by
 refine aY Tryz.func83 (by kernel_rfl) fun cx hcx=>?_
 have e:=Eq.refl (F83 a0 a1);conv at e=>rhs;simp only [F83]
 rw [e]
 exact rt [.p (show 0<=(32:Int) from by decide),.p (show 0<=(32:Int) from by decide),.p (show 0<=(32:Int) from by decide),.p (show 0<=(32:Int) from by decide),.p (show 0<=(32:Int) from by decide)] [] [] hcx (by kernel_rfl)
def xL (a0:Int)(a1:Int):Int :=
 (bif (((F83 (F84 a0) (F84 a1)).1:Int) == 0) then
  (bif (decide (((F83 (F84 a0) (F84 a1)).2:Int)<=1099511627776)) then
   (bif (!((decide ((a0:Int) < 0)) == (decide ((a1:Int) < 0)))) then
    (W (0 - (W (F83 (F84 a0) (F84 a1)).2)))
   else
    (W (F83 (F84 a0) (F84 a1)).2))
  else
   (bif (!((decide ((a0:Int) < 0)) == (decide ((a1:Int) < 0)))) then
    (-1099511627777)
   else
    1099511627777))
 else
  (bif (!((decide ((a0:Int) < 0)) == (decide ((a1:Int) < 0)))) then
   (-1099511627777)
  else
   1099511627777))
theorem C66 (a0:Int)(a1:Int):Con Tryz.prog 66 [(iv a0),(iv a1)] [] (iv (xL a0 a1)) []:=by
 refine aY Tryz.func66 (by kernel_rfl) fun cx hcx=>?_
 let t0:List (St Tryz.prog):=[.c [] (C84 a0),.c [] (C84 a1),.c [] (C83 (F84 a0) (F84 a1))]
 cases h0:(((F83 (F84 a0) (F84 a1)).1:Int) == 0) with
 | true =>
  have q0:=eq_of_beq h0
  let t1:List (St Tryz.prog):=(t0++[.d h0])
  cases h1:(decide (((F83 (F84 a0) (F84 a1)).2:Int)<=1099511627776)) with
  | true =>
   have q1:=cJ h1
   let t2:List (St Tryz.prog):=(t1++[.d h1])
   cases h2:(!((decide ((a0:Int) < 0)) == (decide ((a1:Int) < 0)))) with
   | true =>
    have e:=Eq.refl (xL a0 a1);conv at e=>rhs;simp only [xL,h0,h1,h2,aT]
    rw [e]
    exact rt (t2++[.d h2]) [] [] hcx (by kernel_rfl)
   | false =>
    have e:=Eq.refl (xL a0 a1);conv at e=>rhs;simp only [xL,h0,h1,h2,aT]
    rw [e]
    exact rt (t2++[.d h2]) [] [] hcx (by kernel_rfl)
  | false =>
   have q1:=cN h1
   let t2:List (St Tryz.prog):=(t1++[.d h1])
   cases h2:(!((decide ((a0:Int) < 0)) == (decide ((a1:Int) < 0)))) with
   | true =>
    have e:=Eq.refl (xL a0 a1);conv at e=>rhs;simp only [xL,h0,h1,h2,aT]
    rw [e]
    exact rt (t2++[.d h2]) [] [] hcx (by kernel_rfl)
   | false =>
    have e:=Eq.refl (xL a0 a1);conv at e=>rhs;simp only [xL,h0,h1,h2,aT]
    rw [e]
    exact rt (t2++[.d h2]) [] [] hcx (by kernel_rfl)
 | false =>
  have q0:=ne_of_beq_false h0
  let t1:List (St Tryz.prog):=(t0++[.d h0])
  cases h1:(!((decide ((a0:Int) < 0)) == (decide ((a1:Int) < 0)))) with
  | true =>
   have e:=Eq.refl (xL a0 a1);conv at e=>rhs;simp only [xL,h0,h1,aT]
   rw [e]
   exact rt (t1++[.d h1]) [] [] hcx (by kernel_rfl)
  | false =>
   have e:=Eq.refl (xL a0 a1);conv at e=>rhs;simp only [xL,h0,h1,aT]
   rw [e]
   exact rt (t1++[.d h1]) [] [] hcx (by kernel_rfl)
def zR (a0:Int×Int)(a1:Int):(Int×Int)×Int :=
 (bif (!(xJ a0)) then
  ((0,0),1)
 else
  (bif (!(F64 a1 (-1099511627776) 1099511627776)) then
   ((0,0),1)
  else
   (bif (decide ((a1:Int) < 0)) then
    ((F65 (xL a0.2 a1) (xL a0.1 a1)).1,(F65 (xL a0.2 a1) (xL a0.1 a1)).2)
   else
    ((F65 (xL a0.1 a1) (xL a0.2 a1)).1,(F65 (xL a0.1 a1) (xL a0.2 a1)).2))))
theorem C45 (a0:Int×Int)(a1:Int):Con Tryz.prog 45 [(.a [(iv a0.1),(iv a0.2)]),(iv a1)] [] (.t [(.a (k2 (zR a0 a1).1)),(iv (zR a0 a1).2)]) []:=by
 refine aY Tryz.func45 (by kernel_rfl) fun cx hcx=>?_
 let t0:List (St Tryz.prog):=[.c [] (C44 a0)]
 cases h0:(!(xJ a0)) with
 | true =>
  have e:=Eq.refl (zR a0 a1);conv at e=>rhs;simp only [zR,h0,aT]
  rw [e]
  exact rt (t0++[.d h0]) [] [] hcx (by kernel_rfl)
 | false =>
  let t1:List (St Tryz.prog):=(t0++[.d h0,.c [] (C64 a1 (-1099511627776) 1099511627776)])
  cases h1:(!(F64 a1 (-1099511627776) 1099511627776)) with
  | true =>
   have e:=Eq.refl (zR a0 a1);conv at e=>rhs;simp only [zR,h0,h1,aT]
   rw [e]
   exact rt (t1++[.d h1]) [] [] hcx (by kernel_rfl)
  | false =>
   let t2:List (St Tryz.prog):=(t1++[.d h1])
   cases h2:(decide ((a1:Int) < 0)) with
   | true =>
    have q2:=cJ h2
    have e:=Eq.refl (zR a0 a1);conv at e=>rhs;simp only [zR,h0,h1,h2,aT]
    rw [e]
    exact rt (t2++[.d h2,.c [] (C66 a0.2 a1),.c [] (C66 a0.1 a1),.c [] (C65 (xL a0.2 a1) (xL a0.1 a1))]) [] [] hcx (by kernel_rfl)
   | false =>
    have q2:=cN h2
    have e:=Eq.refl (zR a0 a1);conv at e=>rhs;simp only [zR,h0,h1,h2,aT]
    rw [e]
    exact rt (t2++[.d h2,.c [] (C66 a0.1 a1),.c [] (C66 a0.2 a1),.c [] (C65 (xL a0.1 a1) (xL a0.2 a1))]) [] [] hcx (by kernel_rfl)
theorem aOd (n:Int):IntKind.wrap .u64 n=n % 18446744073709551616:=by
 simp [IntKind.wrap,IntKind.bits,IntKind.signed]
theorem aT5 (a:Int):Int.fdiv a (2 ^ (min (tN 32) 64))=a / 4294967296:=by
 rw [show(2:Int) ^ (min (tN 32) 64)=4294967296 from by kernel_rfl]
 exact Int.fdiv_eq_ediv_of_nonneg _ (by omega)
theorem aVn (a:Int):((BitVec.ofInt 64 a &&& BitVec.ofInt 64 4294967295).toNat:Int)=a % 4294967296:=by
 rw [BitVec.toNat_and,show(BitVec.ofInt 64 4294967295).toNat=2 ^ 32 - 1 from by kernel_rfl,Nat.and_two_pow_sub_one_eq_mod,BitVec.toNat_ofInt]
 have h0:=Int.emod_nonneg a (show(18446744073709551616:Int)≠0 by omega)
 rw [show((2 ^ 64:Nat):Int)=18446744073709551616 from by kernel_rfl]
 have h1:(((a % 18446744073709551616).toNat:Nat):Int)=a % 18446744073709551616:=Int.toNat_of_nonneg h0
 rw [Int.natCast_emod,h1]
 show a % 18446744073709551616 % 4294967296=_
 omega
theorem aVo {x y:Int} (hx:0<=x/\x<=1099511627776)(hy:0<=y/\y<=1099511627776):F83 x y=(x*y / 18446744073709551616,x*y % 18446744073709551616):=by
 unfold F83
 simp only [aOd,aT5,aVn]
 have e0:∀n:Int,n % 4294967296 % 18446744073709551616=n % 4294967296:=fun n=>by omega
 simp only [e0]
 have key:x*y=(x / 4294967296*(y / 4294967296))*18446744073709551616+(x / 4294967296*(y % 4294967296)+x % 4294967296*(y / 4294967296))*4294967296+x % 4294967296*(y % 4294967296):=by
  have h1:=Int.mul_ediv_add_emod x 4294967296
  have h2:=Int.mul_ediv_add_emod y 4294967296
  generalize x / 4294967296=x1 at *
  generalize x % 4294967296=x0 at *
  generalize y / 4294967296=y1 at *
  generalize y % 4294967296=y0 at *
  subst h1;subst h2;grind
 have b1:=oK (a:=256) (b:=256) (x:=x / 4294967296) (y:=y / 4294967296) (by omega) (by omega)
 have b2:=oK (a:=256) (b:=4294967295) (x:=x / 4294967296) (y:=y % 4294967296) (by omega) (by omega)
 have b3:=oK (a:=4294967295) (b:=256) (x:=x % 4294967296) (y:=y / 4294967296) (by omega) (by omega)
 have b4:=oK (a:=4294967295) (b:=4294967295) (x:=x % 4294967296) (y:=y % 4294967296) (by omega) (by omega)
 have n1:0<=x / 4294967296*(y / 4294967296):=Int.mul_nonneg (by omega) (by omega)
 have n2:0<=x / 4294967296*(y % 4294967296):=Int.mul_nonneg (by omega) (by omega)
 have n3:0<=x % 4294967296*(y / 4294967296):=Int.mul_nonneg (by omega) (by omega)
 have n4:0<=x % 4294967296*(y % 4294967296):=Int.mul_nonneg (by omega) (by omega)
 generalize x*y=m at *
 generalize x / 4294967296*(y / 4294967296)=d at *
 generalize x / 4294967296*(y % 4294967296)=b at *
 generalize x % 4294967296*(y / 4294967296)=c at *
 generalize x % 4294967296*(y % 4294967296)=a at *
 rw [eZ]
 exact⟨by omega,rfl⟩
def sP (x n:Int):Int:=if 1099511627776 < x*n then 1099511627777 else if x*n < -1099511627776 then -1099511627777 else x*n
theorem aOe (x n:Int):(x*n=(if x < 0 then 0 - x else x)*(if n < 0 then 0 - n else n)/\((x < 0)=(n < 0)))\/(x*n=-((if x < 0 then 0 - x else x)*(if n < 0 then 0 - n else n))/\¬((x < 0)=(n < 0))):=by
 by_cases h1:x < 0
 ·by_cases h2:n < 0
  ·left;rw [if_pos h1,if_pos h2];exact⟨by grind,by simp [h1,h2]⟩
  ·right;rw [if_pos h1,if_neg h2];exact⟨by grind,by simp [h1,h2]⟩
 ·by_cases h2:n < 0
  ·right;rw [if_neg h1,if_pos h2];exact⟨by grind,by simp [h1,h2]⟩
  ·left;rw [if_neg h1,if_neg h2];exact⟨by grind,by simp [h1,h2]⟩
theorem aOf {x n:Int} (hx:-1099511627776<=x/\x<=1099511627776)(hn:-1099511627776<=n/\n<=1099511627776):xL x n=sP x n:=by
 have hsz:∀z:Int,-1099511627776<=z/\z<=1099511627776->F84 z=if z < 0 then 0 - z else z:=by
  intro z hz
  unfold F84
  by_cases h:z < 0
  ·rw [cH h,cond_true,if_pos h,aS (by omega) (by omega),aOd];omega
  ·rw [dA h,cond_false,if_neg h,aOd];omega
 unfold xL sP
 rw [hsz x hx,hsz n hn,aVo (by split<;>omega) (by split<;>omega)]
 have hm:=aOe x n
 have hnn:0<=(if x < 0 then 0 - x else x)*(if n < 0 then 0 - n else n):=Int.mul_nonneg (by split<;>omega) (by split<;>omega)
 generalize (if x < 0 then 0 - x else x)*(if n < 0 then 0 - n else n)=m at *
 have e:(!(decide (x < 0) == decide (n < 0)))=decide (x*n=-m/\¬((x < 0)=(n < 0))):=by
  by_cases h1:x < 0<;>by_cases h2:n < 0<;>simp [h1,h2] at hm ⊢<;>omega
 rw [e]
 simp only
 by_cases h1:m / 18446744073709551616=0
 ·rw [beq_iff_eq.2 h1,cond_true]
  have h2:m % 18446744073709551616=m:=by omega
  rw [h2]
  by_cases h3:m<=1099511627776
  ·rw [cH h3,cond_true,aS (n:=m) (by omega) (by omega),aS (n:=0 - m) (by omega) (by omega)]
   rcases hm with⟨qq1,qq2⟩ | ⟨qq1,qq2⟩
   ·rw [dA (fun h=>h.2 qq2),cond_false,qq1,if_neg (by omega),if_neg (by omega)]
   ·rw [cH ⟨qq1,qq2⟩,cond_true,qq1,if_neg (by omega),if_neg (by omega)];omega
  ·rw [dA h3,cond_false]
   rcases hm with⟨qq1,qq2⟩ | ⟨qq1,qq2⟩
   ·rw [dA (fun h=>h.2 qq2),cond_false,qq1,if_pos (by omega)]
   ·rw [cH ⟨qq1,qq2⟩,cond_true,qq1,if_neg (by omega),if_pos (by omega)]
 ·rw [beq_eq_false_iff_ne.2 h1,cond_false]
  rcases hm with⟨qq1,qq2⟩ | ⟨qq1,qq2⟩
  ·rw [dA (fun h=>h.2 qq2),cond_false,qq1,if_pos (by omega)]
  ·rw [cH ⟨qq1,qq2⟩,cond_true,qq1,if_neg (by omega),if_pos (by omega)]
theorem aOg {x n:Int} (hx:-1099511627776<=x/\x<=1099511627776)(hn:-1099511627776<=n/\n<=1099511627776):rL x n=sP x n:=by
 have hm:=aOe x n
 have ha:∀z:Int,(-1099511627776<=z/\z<=1099511627776)->(if(z:Int) < (W (0 - z)) then(W (0 - z)) else z)=if z < 0 then 0 - z else z:=by
  intro z hz
  rw [aS (n:=0 - z) (by omega) (by omega)]
  (repeat' split)<;>omega
 unfold rL sP
 rw [ha x hx,ha n hn]
 by_cases hx0:x=0
 ·subst hx0;simp [aS]
 by_cases hn0:n=0
 ·subst hn0;simp [aS]
 rw [bne_iff_ne.2 hx0,bne_iff_ne.2 hn0,cond_true,cond_true]
 have a1:1<=(if x < 0 then 0 - x else x)/\(if x < 0 then 0 - x else x)<=1099511627776:=by split<;>omega
 have a2:1<=(if n < 0 then 0 - n else n)/\(if n < 0 then 0 - n else n)<=1099511627776:=by split<;>omega
 have e:(!(decide (x < 0) == decide (n < 0)))=decide (x*n=-((if x < 0 then 0 - x else x)*(if n < 0 then 0 - n else n))/\¬((x < 0)=(n < 0))):=by
  by_cases h1:x < 0<;>by_cases h2:n < 0<;>simp [h1,h2] at hm ⊢<;>omega
 rw [e]
 generalize (if x < 0 then 0 - x else x)=ax at *
 generalize (if n < 0 then 0 - n else n)=an at *
 rw [Int.tdiv_eq_ediv_of_nonneg (by omega)]
 obtain⟨d1,d2,d3⟩:=aT4 (N:=1099511627776) (n:=ax) (by omega) (by omega)
 have d4:=Int.mul_ediv_add_emod 1099511627776 ax
 have d5:=Int.emod_lt_of_pos 1099511627776 (show 0 < ax by omega)
 rw [aS (n:=1099511627776 / ax) (by omega) (by omega)]
 have hbig:an > 1099511627776 / ax↔1099511627776 < ax*an:=by
  constructor
  ·intro h
   have:=Int.mul_le_mul_of_nonneg_left (show 1099511627776 / ax+1<=an by omega) (show 0<=ax by omega)
   rw [Int.mul_add,Int.mul_one] at this;omega
  ·intro h
   rcases Int.lt_or_le (1099511627776 / ax) an with h' | h'
   ·exact h'
   ·have:=Int.mul_le_mul_of_nonneg_left h' (show 0<=ax by omega)
    rw [Int.mul_comm] at d3;omega
 by_cases hb:an > 1099511627776 / ax
 ·rw [cH hb,cond_true]
  have:=hbig.1 hb
  rcases hm with⟨qq1,qq2⟩ | ⟨qq1,qq2⟩
  ·rw [dA (fun h=>h.2 qq2),cond_false,qq1,if_pos (by omega)]
  ·rw [cH ⟨qq1,qq2⟩,cond_true,qq1,if_neg (by omega),if_pos (by omega)]
 ·rw [dA hb,cond_false]
  have h1:ax*an<=1099511627776:=by
   rcases Int.lt_or_le 1099511627776 (ax*an) with h | h
   ·exact absurd (hbig.2 h) hb
   ·exact h
  have h2:0<=ax*an:=Int.mul_nonneg (by omega) (by omega)
  rcases hm with⟨qq1,qq2⟩ | ⟨qq1,qq2⟩<;>rw [qq1,if_neg (by omega),if_neg (by omega)]<;>exact aS (by omega) (by omega)
theorem aOh {x y n:Int} (h:x<=y)(hn:0<=n):sP x n<=sP y n:=by
 have:=Int.mul_le_mul_of_nonneg_right h hn
 unfold sP;(repeat' split)<;>omega
theorem aOi {x y n:Int} (h:x<=y)(hn:n<=0):sP y n<=sP x n:=by
 have:=Int.mul_le_mul_of_nonpos_right h hn
 unfold sP;(repeat' split)<;>omega
def scl (a:Int×Int)(n:Int):Int×Int:=if n < 0 then(sP a.2 n,sP a.1 n) else(sP a.1 n,sP a.2 n)
def vs (a:Int×Int):Prop:=-1099511627776<=a.1/\a.1<=a.2/\a.2<=1099511627776
theorem aRb {a:Int×Int} {n:Int} (ha:vs a)(hn:-1099511627776<=n/\n<=1099511627776):wX a n=F58 (scl a n).1 (scl a n).2:=by
 obtain⟨h1,h2,h3⟩:=ha
 unfold wX pK F56
 rw [aOc (a:=a.1) (b:=a.2) h1 h2 h3,cH (show n≥-1099511627776 from hn.1),cH hn.2,aOg (x:=a.1) (by omega) hn,aOg (x:=a.2) (by omega) hn]
 show((F58 _ _).1,(F58 _ _).2)=_
 unfold scl
 by_cases h:n < 0
 ·have:=aOi h2 (show n<=0 by omega)
  rw [if_pos h]
  simp only
  rw [show(if(sP a.2 n:Int) < sP a.1 n then sP a.2 n else sP a.1 n)=sP a.2 n by split<;>omega,show(if(sP a.1 n:Int) < sP a.2 n then sP a.2 n else sP a.1 n)=sP a.1 n by split<;>omega]
 ·have:=aOh h2 (show 0<=n by omega)
  rw [if_neg h]
  simp only
  rw [show(if(sP a.2 n:Int) < sP a.1 n then sP a.2 n else sP a.1 n)=sP a.1 n by split<;>omega,show(if(sP a.1 n:Int) < sP a.2 n then sP a.2 n else sP a.1 n)=sP a.2 n by split<;>omega]
theorem aVp {a b:Int} (h1:-1099511627776<=a)(h2:a<=b)(h3:b<=1099511627776):xJ (a,b)=true:=aOc h1 h2 h3
theorem aK4 (a b:Int):F65 a b=F58 a b:=rfl
theorem aRc {a:Int×Int} {n:Int} (ha:vs a)(hn:-1099511627776<=n/\n<=1099511627776):zR a n=F58 (scl a n).1 (scl a n).2:=by
 obtain⟨h1,h2,h3⟩:=ha
 unfold zR
 rw [aVp (a:=a.1) (b:=a.2) h1 h2 h3,aI5,cH hn,aOf (x:=a.1) (by omega) hn,aOf (x:=a.2) (by omega) hn,aK4,aK4]
 unfold scl
 by_cases h:n < 0
 ·rw [if_pos h,cH h];rfl
 ·rw [if_neg h,dA h];rfl
theorem aMw (a b:Int):(F58 a b=((a,b),0)/\vs (a,b))\/F58 a b=((0,0),4):=by
 by_cases h:vs (a,b)
 ·exact Or.inl ⟨aVm h.1 h.2.1 h.2.2,h⟩
 ·right
  unfold F58
  have:F37 (a,b)=false:=by
   unfold F37
   by_cases h1:(a,b).1≥-1099511627776
   ·by_cases h2:(a,b).1<=(a,b).2
    ·rw [cH h1,cH h2,cond_true,cond_true];exact dA (fun h3=>h ⟨h1,h2,h3⟩)
    ·rw [cH h1,dA h2];rfl
   ·rw [dA h1];rfl
  rw [this];rfl
def ht (p:PN)(x:P3):Int:=dt (sb p.1 x) (cr (sb p.2.1 x) (sb p.2.2 x))
def aG9:List (Int×Int)->Int×Int->Int×Int
 | [],v=>v
 | a::l,v=>aG9 l (v.1+a.1,v.2+a.2)
section
variable {l : List (Int × Int)}
end
end Go.Proofs.YtkdfcbmcgnaicaaGreat
namespace Go.Proofs.YtkdfcbmcgnaicaaGreat
open Go.Proofs Go.Aw Go.RowKit
set_option maxRecDepth 100000
def aBh (a0:Int):Int :=
 (if(a0:Int) < (W (0 - a0)) then(W (0 - a0)) else a0)
theorem aT6 (a0:Int):Con Tryz.prog 135 [(iv a0)] [] (iv (aBh a0)) []:=by
 refine aY Tryz.func135 (by kernel_rfl) fun cx hcx=>?_
 have e:=Eq.refl (aBh a0);conv at e=>rhs;simp only [aBh]
 rw [e]
 exact rt [] [] [] hcx (by kernel_rfl)
def rW (a0:Zt)(a1:Int):Bool :=
 (bif (decide (((aBh a0.1):Int)<=a1)) then
  (bif (decide (((aBh a0.2.1):Int)<=a1)) then
   (bif (decide (((aBh a0.2.2):Int)<=a1)) then
    (bif (decide ((a0.1:Int)≥(W (0 - a1)))) then
     (bif (decide ((a0.2.1:Int)≥(W (0 - a1)))) then
      (decide ((a0.2.2:Int)≥(W (0 - a1))))
     else
      false)
    else
     false)
   else
    false)
  else
   false)
 else
  false)
theorem aW6 (a0:Zt)(a1:Int):Con Tryz.prog 133 [(.a (k3 a0)),(iv a1)] [] (.v (.bool (rW a0 a1))) []:=by
 refine aY Tryz.func133 (by kernel_rfl) fun cx hcx=>?_
 let t0:List (St Tryz.prog):=[.c [] (aT6 a0.1)]
 cases h0:(decide (((aBh a0.1):Int)<=a1)) with
 | true =>
  have q0:=cJ h0
  let t1:List (St Tryz.prog):=(t0++[.d h0,.c [] (aT6 a0.2.1)])
  cases h1:(decide (((aBh a0.2.1):Int)<=a1)) with
  | true =>
   have q1:=cJ h1
   let t2:List (St Tryz.prog):=(t1++[.d h1,.c [] (aT6 a0.2.2)])
   cases h2:(decide (((aBh a0.2.2):Int)<=a1)) with
   | true =>
    have q2:=cJ h2
    let t3:List (St Tryz.prog):=(t2++[.d h2])
    cases h3:(decide ((a0.1:Int)≥(W (0 - a1)))) with
    | true =>
     have q3:=cJ h3
     let t4:List (St Tryz.prog):=(t3++[.d h3])
     cases h4:(decide ((a0.2.1:Int)≥(W (0 - a1)))) with
     | true =>
      have q4:=cJ h4
      have e:=Eq.refl (rW a0 a1);conv at e=>rhs;simp only [rW,h0,h1,h2,h3,h4,aT]
      rw [e]
      exact rt (t4++[.d h4]) [] [] hcx (by kernel_rfl)
     | false =>
      have q4:=cN h4
      have e:=Eq.refl (rW a0 a1);conv at e=>rhs;simp only [rW,h0,h1,h2,h3,h4,aT]
      rw [e]
      exact rt (t4++[.d h4]) [] [] hcx (by kernel_rfl)
    | false =>
     have q3:=cN h3
     have e:=Eq.refl (rW a0 a1);conv at e=>rhs;simp only [rW,h0,h1,h2,h3,aT]
     rw [e]
     exact rt (t3++[.d h3]) [] [] hcx (by kernel_rfl)
   | false =>
    have q2:=cN h2
    have e:=Eq.refl (rW a0 a1);conv at e=>rhs;simp only [rW,h0,h1,h2,aT]
    rw [e]
    exact rt (t2++[.d h2]) [] [] hcx (by kernel_rfl)
  | false =>
   have q1:=cN h1
   have e:=Eq.refl (rW a0 a1);conv at e=>rhs;simp only [rW,h0,h1,aT]
   rw [e]
   exact rt (t1++[.d h1]) [] [] hcx (by kernel_rfl)
 | false =>
  have q0:=cN h0
  have e:=Eq.refl (rW a0 a1);conv at e=>rhs;simp only [rW,h0,aT]
  rw [e]
  exact rt (t0++[.d h0]) [] [] hcx (by kernel_rfl)
def gB (a0:Zt):Int :=
 (W ((W ((W (a0.1*a0.1))+(W (a0.2.1*a0.2.1))))+(W (a0.2.2*a0.2.2))))
theorem aRd (a0:Zt):Con Tryz.prog 105 [(.a (k3 a0))] [] (iv (gB a0)) []:=by
 refine aY Tryz.func105 (by kernel_rfl) fun cx hcx=>?_
 have e:=Eq.refl (gB a0);conv at e=>rhs;simp only [gB]
 rw [e]
 exact rt [] [] [] hcx (by kernel_rfl)
def fS (a0:Zt)(a1:Zt):Zt :=
 ((W (a0.1 - a1.1)),(W (a0.2.1 - a1.2.1)),(W (a0.2.2 - a1.2.2)))
theorem aRe (a0:Zt)(a1:Zt):Con Tryz.prog 106 [(.a (k3 a0)),(.a (k3 a1))] [] (.a (k3 (fS a0 a1))) []:=by
 refine aY Tryz.func106 (by kernel_rfl) fun cx hcx=>?_
 have e:=Eq.refl (fS a0 a1);conv at e=>rhs;simp only [fS]
 rw [e]
 exact rt [] [] [] hcx (by kernel_rfl)
section
variable {n s t : Int}
end
end Go.Proofs.YtkdfcbmcgnaicaaGreat
namespace Go.Proofs.YtkdfcbmcgnaicaaGreat
open Go.Proofs Go.Aw Go.RowKit
set_option maxRecDepth 100000
open Go.ChangeShapes Go.WideShapes Go.ChangeAt
section
variable {H : Type} {enc : TypeId × Value → H} {P : Program} {w : World}
def rho (es:Nat):Value->Option (Nat×Nat×Nat)
 | .slice (some a) _ cap=>some (a.block,a.off,cap*es)
 | _=>none
end
end Go.Proofs.YtkdfcbmcgnaicaaGreat
namespace Go.Proofs.YtkdfcbmcgnaicaaGreat
open Go.Proofs Go.Aw Go.RowKit
set_option maxRecDepth 100000
theorem iO {α:Type} {c:α->List SV} (hc:∀x,(c x).all SV.one=true) {l:List α}:(flat c l).all SV.one=true:=by
 rw [List.all_eq_true]
 intro x hx
 obtain⟨a,_,ha⟩:=List.mem_flatMap.1 hx
 exact List.all_eq_true.1 (hc a) x ha
theorem bW {α:Type} {c:α->List SV} {es:Nat} (hc:∀x,(c x).length=es)(l:List α):(flat c l).length=l.length*es:=rU hc l
def okw (v:Int×Int)(n:Nat):Prop:=(-4611686018427387904+1099511627776*n<=v.1/\v.1+1099511627776*n<=4611686018427387904)/\(-4611686018427387904+1099511627776*n<=v.2/\v.2+1099511627776*n<=4611686018427387904)
theorem aOj {v a:Int×Int} {n:Nat} (h:okw v (n+1))(ha:vs a):okw (v.1+a.1,v.2+a.2) n:=by unfold okw vs at *;simp only;omega
theorem aVq {v:Int×Int} {n:Nat} (h:okw v n):W v.1=v.1/\W v.2=v.2:=by unfold okw at h;exact⟨aS (by omega) (by omega),aS (by omega) (by omega)⟩
theorem aS5 {n:Nat} (h:n<=10000):okw (0,0) n:=by unfold okw;simp only;omega
theorem aBi {R:Type} [Inhabited R] {S:Zt->Zt⊕R} {G:Int×Int->R} {L:List (Int×Int)} (hl:∀a∈L,vs a)
 (hS:∀(i:Nat) (a:Int×Int),L[i]? = some a->∀v1 v2:Int,S (v1,v2,(i:Int))=.inl (W (v1+a.1),W (v2+a.2),((i+1:Nat):Int)))
 (hE:∀v1 v2:Int,S (v1,v2,(L.length:Int))=.inr (G (v1,v2))) :
 ∀(l:List (Int×Int)) (i n:Nat) (v:Int×Int),L.drop i=l->i<=L.length->l.length < n->okw v l.length->aH S n (v.1,v.2,(i:Int))=G (aG9 l v):=by
 intro l
 induction l with
 | nil =>
  intro i n v hd hi' hn h
  have:i=L.length:=by have:=List.drop_eq_nil_iff.1 hd;omega
  obtain⟨n,rfl⟩:∃m,n=m+1:=⟨n - 1,by simp only [List.length_nil] at hn;omega⟩
  subst this
  rw [aQ (hE _ _)];rfl
 | cons c l ih =>
  intro i n v hd hi' hn h
  have hc:L[i]? = some c:=by
   have:(L.drop i)[0]? = some c:=by rw [hd];rfl
   simpa using this
  obtain⟨hlt,hce⟩:=List.getElem?_eq_some_iff.1 hc
  obtain⟨n,rfl⟩:∃m,n=m+1:=⟨n - 1,by omega⟩
  have h1:okw (v.1+c.1,v.2+c.2) l.length:=aOj h (hl c (hce▸List.getElem_mem hlt))
  have hw:=aVq h1
  simp only at hw
  rw [aI (hS i c hc v.1 v.2),hw.1,hw.2]
  exact ih (i+1) n (v.1+c.1,v.2+c.2) (by rw [←List.drop_drop,hd];rfl) (by omega) (by simp only [List.length_cons] at hn;omega) h1
section
variable {l : List (Int × Int)}
theorem aOk {a:Int×Int} (h:vs a):F37 a=true:=aOc (a:=a.1) (b:=a.2) h.1 h.2.1 h.2.2
theorem aW7 (hl:∀a∈l,vs a):zA l=0:=by
 have key:∀(m:List (Int×Int)) (i n:Nat),l.drop i=m->i<=l.length->m.length < n->aH (jO l) n (i:Int)=0:=by
  intro m
  induction m with
  | nil =>
   intro i n hd hi hn
   have:i=l.length:=by have:=List.drop_eq_nil_iff.1 hd;omega
   obtain⟨n,rfl⟩:∃m,n=m+1:=⟨n - 1,by simp only [List.length_nil] at hn;omega⟩
   subst this
   refine aQ ?_
   simp only [jO]
   rw [dA (Int.lt_irrefl _),cond_false]
  | cons c m ih =>
   intro i n hd hi hn
   have hc:l[i]? = some c:=by
    have:(l.drop i)[0]? = some c:=by rw [hd];rfl
    simpa using this
   obtain⟨hlt,hce⟩:=List.getElem?_eq_some_iff.1 hc
   obtain⟨n,rfl⟩:∃m,n=m+1:=⟨n - 1,by omega⟩
   have hg:l.getD i dF=c:=by rw [fV,hc];rfl
   have e:jO l (i:Int)=.inl ((i+1:Nat):Int):=by
    simp only [jO]
    rw [cH (show((i:Nat):Int) < (l.length:Nat) by omega),cond_true,fZ,hg,aOk (hl c (hce▸List.getElem_mem hlt))];rfl
   rw [aI e]
   exact ih (i+1) n (by rw [←List.drop_drop,hd];rfl) (by omega) (by simp only [List.length_cons] at hn;omega)
 unfold zA
 exact key l 0 _ rfl (Nat.zero_le _) (by omega)
theorem aT7 (hl:∀a∈l,vs a)(hn:l.length<=10000):kV l=((aG9 l (0,0)).1,(aG9 l (0,0)).2,0):=by
 unfold kV
 rw [dA (by omega),cond_false,aW7 hl]
 show aH _ _ (((0,0):Int×Int).1,((0,0):Int×Int).2,((0:Nat):Int))=_
 refine aBi (G:=fun v=>(v.1,v.2,0)) hl (fun i a hi v1 v2=>?_) (fun v1 v2=>?_) l 0 _ (0,0) rfl (Nat.zero_le _) (by omega) (aS5 hn)
 ·obtain⟨hlt,hce⟩:=List.getElem?_eq_some_iff.1 hi
  have hg:l.getD i dF=a:=by rw [fV,hi];rfl
  simp only [oA]
  rw [cH (show((i:Nat):Int) < (l.length:Nat) by omega),cond_true,fZ,hg];rfl
 ·simp only [oA]
  rw [dA (Int.lt_irrefl _),cond_false]
theorem aT8 (hl:∀a∈l,vs a)(hn:l.length<=10000):mF l=((aG9 l (0,0)).1,(aG9 l (0,0)).2,0):=by
 unfold mF
 rw [dA (by omega),cond_false]
 show aH _ _ (((0,0):Int×Int).1,((0,0):Int×Int).2,((0:Nat):Int))=_
 refine aBi (G:=fun v=>(v.1,v.2,0)) hl (fun i a hi v1 v2=>?_) (fun v1 v2=>?_) l 0 _ (0,0) rfl (Nat.zero_le _) (by omega) (aS5 hn)
 ·obtain⟨hlt,hce⟩:=List.getElem?_eq_some_iff.1 hi
  have hg:l.getD i dF=a:=by rw [fV,hi];rfl
  simp only [lI]
  rw [cH (show((i:Nat):Int) < (l.length:Nat) by omega),cond_true,fZ,hg,show xJ a=true from aOk (hl a (hce▸List.getElem_mem hlt))];rfl
 ·simp only [lI]
  rw [dA (Int.lt_irrefl _),cond_false]
noncomputable def aVr (l:List (Int×Int)):(Int×Int)×Int:=F58 (aG9 l (0,0)).1 (aG9 l (0,0)).2
theorem aVs (hl:∀a∈l,vs a)(hn:l.length<=10000):jG l=aVr l:=by
 unfold jG
 rw [aT7 hl hn];rfl
theorem aVt (hl:∀a∈l,vs a)(hn:l.length<=10000):jH l=aVr l:=by
 unfold jH
 rw [aT8 hl hn];rfl
end
theorem aOl {a:Int×Int} {n:Int} (h:(wX a n).2=0):vs (wX a n).1:=by
 have h0:=h
 unfold wX at h0
 cases h1:((pK a:Int) != 0) with
 | true=>rw [h1,cond_true] at h0;exact absurd h0 (bne_iff_ne.1 h1)
 | false =>
  rw [h1,cond_false] at h0
  cases h2:(!(F56 n)) with
  | true=>rw [h2,cond_true] at h0;exact absurd h0 (by decide)
  | false =>
   obtain⟨x,y,e⟩:∃x y,wX a n=F58 x y:=⟨_,_,by unfold wX;rw [h1,cond_false,h2,cond_false]⟩
   rw [e] at h ⊢
   rcases aMw x y with⟨e1,e2⟩ | e1
   ·rw [e1];exact e2
   ·rw [e1] at h;exact absurd h (by decide)
end Go.Proofs.YtkdfcbmcgnaicaaGreat
namespace Go.Proofs.YtkdfcbmcgnaicaaGreat
open Go.Proofs Go.Aw Go.RowKit
set_option maxRecDepth 100000
theorem vQ {l:List (PN×Int)} (h:jD l=0):l.length<=96:=by
 rcases Nat.lt_or_ge 96 l.length with h' | h'
 ·exfalso
  unfold jD at h
  rw [cH (by omega),cond_true] at h
  exact absurd h (by decide)
 ·exact h'
theorem bB {α:Type} {c:α->List SV} {es:Nat} (hc:∀x,(c x).length=es) {L:List α} {i o:Nat} {xs:List SV} {d y:α} (hi:i < L.length)(ho:o+xs.length<=es)(hy:c y=splice (c (L.getD i d)) o xs) :
 splice (flat c L) (0+i*es+o) xs=flat c (L.set i y):=by
 induction L generalizing i with
 | nil=>simp at hi
 | cons x L ih =>
  cases i with
  | zero =>
   have hy':c y=splice (c x) o xs:=hy
   have hx:=hc x
   simp only [flat,List.flatMap_cons,List.set_cons_zero,hy']
   unfold splice
   simp only [Nat.zero_mul,Nat.zero_add]
   rw [List.take_append_of_le_length (by omega),List.drop_append_of_le_length (by omega)]
   simp [List.append_assoc]
  | succ i =>
   have h:=ih (i:=i) (by simpa using hi) hy
   have hx:=hc x
   simp only [flat,List.flatMap_cons,List.set_cons_succ] at h ⊢
   rw [←h]
   unfold splice
   have e1:0+(i+1)*es+o=(c x).length+(0+i*es+o):=by rw [hx,Nat.add_mul];omega
   rw [e1,List.take_length_add_append,show(c x).length+(0+i*es+o)+xs.length=(c x).length+(0+i*es+o+xs.length) by omega,List.drop_length_add_append]
   simp [List.append_assoc]
theorem dT {α:Type} {c:α->List SV} {es:Nat} (hc:∀x,(c x).length=es) {L:List α} {i o n:Nat} (hi:i < L.length)(ho:o+n<=es):0+i*es+o+n<=(flat c L).length:=by
 rw [rU hc]
 have:=Nat.mul_le_mul_right es (show i+1<=L.length by omega)
 rw [Nat.add_mul] at this
 omega
theorem aT9 (w i es x:Nat):0+w*es+i*es+x=0+(w+i)*es+x:=by rw [Nat.add_mul];omega
theorem aP {α:Type} {c:α->List SV} {es:Nat} (hc:∀x,(c x).length=es) {L:List α} {w i o:Nat} {xs:List SV} {d y:α} (hi:w+i < L.length)(ho:o+xs.length<=es)(hy:c y=splice (c (L.getD (w+i) d)) o xs) :
 splice (flat c L) (0+w*es+i*es+o) xs=flat c (L.set (w+i) y):=by rw [aT9];exact bB hc hi ho hy
theorem aX {α:Type} {c:α->List SV} {es:Nat} (hc:∀x,(c x).length=es) {L:List α} {w i o n:Nat} (hi:w+i < L.length)(ho:o+n<=es):0+w*es+i*es+o+n<=(flat c L).length:=by rw [aT9];exact dT hc hi ho
theorem ldw {α:Type} [Inhabited α] {c:α->List SV} {es:Nat} (hc:∀x,(c x).length=es)(l:List α)(w:Nat)(i:Int)(o n:Nat)(h:w+i.toNat < l.length)(ho:o+n<=es) :
 ((flat c l).drop (0+w*es+i.toNat*es+o)).take n=((c (l.getD (w+i.toNat) dF)).drop o).take n:=by
 rw [aT9]
 have:=aK0 hc l ((w+i.toNat:Nat):Int) o n ⟨by omega,by omega⟩ ho
 rw [fZ] at this
 exact this
def cQ {P:Program} {α:Type} [Inhabited α] {c:α->List SV} {es:Nat} (hc:∀x,(c x).length=es)(l:List α)(w:Nat)(i:Int)(o n:Nat)(h:w+i.toNat < l.length:=by first | omega | (simp only [Lt];omega)) (ho:o+n<=es:=by decide):St P :=
 St.l (l:=flat c l) (o:=0+w*es+i.toNat*es+o) (n:=n) (((c (l.getD (w+i.toNat) dF)).drop o).take n) (ldw hc l w i o n h ho)
def InR (n:Nat)(l:List Int):Prop:=∀x∈l,0<=x/\x < (n:Int)
theorem InR.at {n:Nat} {l:List Int} (h:InR n l) {i:Nat} (hi:i < l.length):0<=l.getD i dF/\l.getD i dF < (n:Int):=by
 rw [fV,List.getElem?_eq_getElem hi,Option.getD_some]
 exact h _ (List.getElem_mem hi)
theorem InR.set {n:Nat} {l:List Int} (h:InR n l) {i:Nat} {x:Int} (hx:0<=x/\x < (n:Int)):InR n (l.set i x):=fun y hy=>by
 rcases List.mem_or_eq_of_mem_set hy with hy | rfl
 ·exact h y hy
 ·exact hx
theorem InR.swap {n:Nat} {l:List Int} (h:InR n l) {i j p q:Nat} (hp:p < l.length)(hq:q < l.length):InR n ((l.set i (l.getD p dF)).set j (l.getD q dF)):=(h.set (h.at hp)).set (h.at hq)
def c3 (x:Int):List SV:=[(iv x)]
theorem aF (x:Int):(c3 x).length=1:=rfl
def cB (x:Int×Int×Int×Int×Zt×Int):List SV:=[(iv x.1),(iv x.2.1),(iv x.2.2.1),(iv x.2.2.2.1),(iv x.2.2.2.2.1.1),(iv x.2.2.2.2.1.2.1),(iv x.2.2.2.2.1.2.2),(iv x.2.2.2.2.2)]
theorem bU (x:Int×Int×Int×Int×Zt×Int):(cB x).length=8:=rfl
def rX (a0:bO×Int×List Int×bF)(a1:Int)(a2:Int):Int :=
 (bif ((a2:Int) == 0) then
  (W ((W ((a0.1.getD (tN a1) dF).1.1.1+(a0.1.getD (tN a1) dF).1.2.1.1))+(a0.1.getD (tN a1) dF).1.2.2.1))
 else
  (bif ((a2:Int) == 1) then
   (W ((W ((a0.1.getD (tN a1) dF).1.1.2.1+(a0.1.getD (tN a1) dF).1.2.1.2.1))+(a0.1.getD (tN a1) dF).1.2.2.2.1))
  else
   (W ((W ((a0.1.getD (tN a1) dF).1.1.2.2+(a0.1.getD (tN a1) dF).1.2.1.2.2))+(a0.1.getD (tN a1) dF).1.2.2.2.2))))
theorem C95 (a0:bO×Int×List Int×bF)(a1:Int)(a2:Int)(l0_1:a0.1.length<=2^63-1)(l0_2_2_1:a0.2.2.1.length<=2^63-1)(l0_2_2_2:a0.2.2.2.length<=2^63-1)(hi:0<=a1/\a1 < (a0.1.length:Int)):Con Tryz.prog 95 [(.p 0 0),(iv a1),(iv a2)] [(.live false false [(.s 1 0 a0.1.length 10),(iv a0.2.1),(.s 2 0 a0.2.2.1.length 1),(.s 3 0 a0.2.2.2.length 8)]),(.live false true (flat dC a0.1)),(.live false true (flat c3 a0.2.2.1)),(.live false true (flat cB a0.2.2.2))] (iv (rX a0 a1 a2)) []:=by
 refine aY Tryz.func95 (by kernel_rfl) fun cx hcx=>?_
 let t0:List (St Tryz.prog):=[.i a1 (a0.1.length),.L eC a0.1 a1 0 9]
 cases h0:((a2:Int) == 0) with
 | true =>
  have q0:=eq_of_beq h0
  have e:=Eq.refl (rX a0 a1 a2);conv at e=>rhs;simp only [rX,h0,aT]
  rw [e]
  exact rt (t0++[.d h0]) [] [] hcx (by kernel_rfl)
 | false =>
  have q0:=ne_of_beq_false h0
  let t1:List (St Tryz.prog):=(t0++[.d h0])
  cases h1:((a2:Int) == 1) with
  | true =>
   have q1:=eq_of_beq h1
   have e:=Eq.refl (rX a0 a1 a2);conv at e=>rhs;simp only [rX,h0,h1,aT]
   rw [e]
   exact rt (t1++[.d h1]) [] [] hcx (by kernel_rfl)
  | false =>
   have q1:=ne_of_beq_false h1
   have e:=Eq.refl (rX a0 a1 a2);conv at e=>rhs;simp only [rX,h0,h1,aT]
   rw [e]
   exact rt (t1++[.d h1]) [] [] hcx (by kernel_rfl)
def aBj (a0:Int):Bool :=
 ((a0:Int) != a0)
theorem aVu (a0:Int):Con Tryz.prog 119 [(iv a0)] [] (.v (.bool (aBj a0))) []:=by
 refine aY Tryz.func119 (by kernel_rfl) fun cx hcx=>?_
 have e:=Eq.refl (aBj a0);conv at e=>rhs;simp only [aBj]
 rw [e]
 exact rt [] [] [] hcx (by kernel_rfl)
def F97 (a0:Int)(a1:Int):Int :=
 (bif (aBj a0) then
  (bif (aBj a1) then
   0
  else
   (-1))
 else
  (bif (aBj a1) then
   1
  else
   (bif (decide ((a0:Int) < a1)) then
    (-1)
   else
    (bif (decide ((a0:Int) > a1)) then
     1
    else
     0))))
theorem C97 (a0:Int)(a1:Int):Con Tryz.prog 97 [(iv a0),(iv a1)] [] (iv (F97 a0 a1)) []:=by
 refine aY Tryz.func97 (by kernel_rfl) fun cx hcx=>?_
 let t0:List (St Tryz.prog):=[.c [] (aVu a0),.c [] (aVu a1)]
 cases h0:(aBj a0) with
 | true =>
  let t1:List (St Tryz.prog):=(t0++[.d h0])
  cases h1:(aBj a1) with
  | true =>
   have e:=Eq.refl (F97 a0 a1);conv at e=>rhs;simp only [F97,h0,h1,aT]
   rw [e]
   exact rt (t1++[.d h1]) [] [] hcx (by kernel_rfl)
  | false =>
   have e:=Eq.refl (F97 a0 a1);conv at e=>rhs;simp only [F97,h0,h1,aT]
   rw [e]
   exact rt (t1++[.d h1]) [] [] hcx (by kernel_rfl)
 | false =>
  let t1:List (St Tryz.prog):=(t0++[.d h0])
  cases h1:(aBj a1) with
  | true =>
   have e:=Eq.refl (F97 a0 a1);conv at e=>rhs;simp only [F97,h0,h1,aT]
   rw [e]
   exact rt (t1++[.d h1]) [] [] hcx (by kernel_rfl)
  | false =>
   let t2:List (St Tryz.prog):=(t1++[.d h1])
   cases h2:(decide ((a0:Int) < a1)) with
   | true =>
    have q2:=cJ h2
    have e:=Eq.refl (F97 a0 a1);conv at e=>rhs;simp only [F97,h0,h1,h2,aT]
    rw [e]
    exact rt (t2++[.d h2]) [] [] hcx (by kernel_rfl)
   | false =>
    have q2:=cN h2
    let t3:List (St Tryz.prog):=(t2++[.d h2])
    cases h3:(decide ((a0:Int) > a1)) with
    | true =>
     have q3:=cJ h3
     have e:=Eq.refl (F97 a0 a1);conv at e=>rhs;simp only [F97,h0,h1,h2,h3,aT]
     rw [e]
     exact rt (t3++[.d h3]) [] [] hcx (by kernel_rfl)
    | false =>
     have q3:=cN h3
     have e:=Eq.refl (F97 a0 a1);conv at e=>rhs;simp only [F97,h0,h1,h2,h3,aT]
     rw [e]
     exact rt (t3++[.d h3]) [] [] hcx (by kernel_rfl)
def tF (a0:(Int)×(Int)):Int :=
 (bif ((a0.1:Int) != 0) then
  a0.1
 else
  (bif ((a0.2:Int) != 0) then
   a0.2
  else
   0))
theorem aVv (a0:(Int)×(Int)):Con Tryz.prog 96 [(.s 0 0 2 1)] [(.live false false [(iv a0.1),(iv a0.2)])] (iv (tF a0)) []:=by
 refine aY Tryz.func96 (by kernel_rfl) fun cx hcx=>?_
 let t0:List (St Tryz.prog):=[.u 200,.T,.i 0 2 (by decide)]
 cases h0:((a0.1:Int) != 0) with
 | true =>
  have q0:=bne_iff_ne.1 h0
  have e:=Eq.refl (tF a0);conv at e=>rhs;simp only [tF,h0,aT]
  rw [e]
  exact rt (t0++[.d h0]) [] [] hcx (by kernel_rfl)
 | false =>
  have q0:=bne_eq_false_iff_eq.1 h0
  let t1:List (St Tryz.prog):=(t0++[.d h0,.u 0,.T,.i 1 2 (by decide)])
  cases h1:((a0.2:Int) != 0) with
  | true =>
   have q1:=bne_iff_ne.1 h1
   have e:=Eq.refl (tF a0);conv at e=>rhs;simp only [tF,h0,h1,aT]
   rw [e]
   exact rt (t1++[.d h1]) [] [] hcx (by kernel_rfl)
  | false =>
   have q1:=bne_eq_false_iff_eq.1 h1
   have e:=Eq.refl (tF a0);conv at e=>rhs;simp only [tF,h0,h1,aT]
   rw [e]
   exact rt (t1++[.d h1,.u 0,.F]) [] [] hcx (by kernel_rfl)
def pL (a0:eP×Int)(a1:Int)(a2:Int):Int :=
 (tF ((F97 (rX (a0.1.1,a0.1.2.1,(a0.1.2.2.1,a0.1.2.2.2)) a1 a0.2) (rX (a0.1.1,a0.1.2.1,(a0.1.2.2.1,a0.1.2.2.2)) a2 a0.2)),(F97 a1 a2)))
theorem C75 (a0:eP×Int)(a1:Int)(a2:Int)(l0_1_1:a0.1.1.length<=2^63-1)(l0_1_2_2_1:a0.1.2.2.1.length<=2^63-1)(l0_1_2_2_2:a0.1.2.2.2.length<=2^63-1)(hi:0<=a1/\a1 < (a0.1.1.length:Int))(hk:0<=a2/\a2 < (a0.1.1.length:Int)):Con Tryz.prog 75 [(.a [(.p 0 0),(iv a0.2)]),(iv a1),(iv a2)] [(.live false false [(.s 1 0 a0.1.1.length 10),(iv a0.1.2.1),(.s 2 0 a0.1.2.2.1.length 1),(.s 3 0 a0.1.2.2.2.length 8)]),(.live false true (flat dC a0.1.1)),(.live false true (flat c3 a0.1.2.2.1)),(.live false true (flat cB a0.1.2.2.2))] (iv (pL a0 a1 a2)) []:=by
 refine aY Tryz.func75 (by kernel_rfl) fun cx hcx=>?_
 have e:=Eq.refl (pL a0 a1 a2);conv at e=>rhs;simp only [pL]
 rw [e]
 exact rt [.c [0,1,2,3] (C95 (a0.1.1,a0.1.2.1,(a0.1.2.2.1,a0.1.2.2.2)) a1 a0.2 (by omega) (by omega) (by omega) (by first | exact hi | exact hk)),.c [0,1,2,3] (C95 (a0.1.1,a0.1.2.1,(a0.1.2.2.1,a0.1.2.2.2)) a2 a0.2 (by omega) (by omega) (by omega) (by first | exact hi | exact hk)),.c [] (C97 (rX (a0.1.1,a0.1.2.1,(a0.1.2.2.1,a0.1.2.2.2)) a1 a0.2) (rX (a0.1.1,a0.1.2.1,(a0.1.2.2.1,a0.1.2.2.2)) a2 a0.2)),.c [] (C97 a1 a2),.c [5] (aVv ((F97 (rX (a0.1.1,a0.1.2.1,(a0.1.2.2.1,a0.1.2.2.2)) a1 a0.2) (rX (a0.1.1,a0.1.2.1,(a0.1.2.2.1,a0.1.2.2.2)) a2 a0.2)),(F97 a1 a2)))] [] [] hcx (by kernel_rfl)
noncomputable def qG:Code:=(aM [1,0,1,0,1] [0] (aL Tryz.f109) []).1
noncomputable def qH (m0:Nat):List K:=(aM [1,0,1,0,1] [m0] (aL Tryz.f109) []).2
def oL (a0:List Int)(a0_o:Nat)(a0_n:Nat)(a1:Int)(a2:Int)(a3:eP×Int)(v5c:List SV)(v5n:Nat)(v6 v7:Int):LS:=⟨gD 53 [(0,(.s 0 (0+a0_o*1) a0_n 1)),(1,(iv a1)),(2,(iv a2)),(3,(.f 1000075 [(.a [(.p 1 0),(iv a3.2)])])),(8,(iv v6)),(9,(iv v7))],[(.live true true v5c),(.live false false [(.s 2 0 a3.1.1.length 10),(iv a3.1.2.1),(.s 0 0 v5n 1),(.s 3 0 a3.1.2.2.2.length 8)]),(.live false true (flat dC a3.1.1)),(.live false true (flat cB a3.1.2.2.2))]⟩
def dH (a0:List Int)(a0_o:Nat)(a0_n:Nat)(a1:Int)(a2:Int)(a3:eP×Int):List Int×Int×Int->(List Int×Int×Int)⊕((List Int×Int)⊕(List Int))
 | (v5,v6,v7) =>
  (bif (decide ((v7:Int) > a1)) then
   (bif (decide (((pL ((a3.1.1,a3.1.2.1,(v5,a3.1.2.2.2)),a3.2) (v5.getD (a0_o+tN v7) dF) (v5.getD (a0_o+tN (W (v7 - 1))) dF)):Int) < 0)) then
    (.inl (((v5.set (a0_o+tN v7) (v5.getD (a0_o+tN (W (v7 - 1))) dF)).set (a0_o+tN (W (v7 - 1))) (v5.getD (a0_o+tN v7) dF)),v6,(W (v7 - 1))))
   else
    (.inr (.inl (v5,(v6+1)))))
  else
   (.inr (.inl (v5,(v6+1)))))
noncomputable def kH:Code:=(aM [1] [] (aL Tryz.f109) []).1
noncomputable def kI:List K:=(aM [1] [] (aL Tryz.f109) []).2
def jI (a0:List Int)(a0_o:Nat)(a0_n:Nat)(a1:Int)(a2:Int)(a3:eP×Int)(v3c:List SV)(v3n:Nat)(v4:Int):LS:=⟨gD 53 [(0,(.s 0 (0+a0_o*1) a0_n 1)),(1,(iv a1)),(2,(iv a2)),(3,(.f 1000075 [(.a [(.p 1 0),(iv a3.2)])])),(8,(iv v4))],[(.live true true v3c),(.live false false [(.s 2 0 a3.1.1.length 10),(iv a3.1.2.1),(.s 0 0 v3n 1),(.s 3 0 a3.1.2.2.2.length 8)]),(.live false true (flat dC a3.1.1)),(.live false true (flat cB a3.1.2.2.2))]⟩
def eD (a0:List Int)(a0_o:Nat)(a0_n:Nat)(a1:Int)(a2:Int)(a3:eP×Int):List Int×Int->(List Int×Int)⊕(List Int)
 | (v3,v4) =>
  (bif (decide ((v4:Int) < a2)) then
   (aH (dH a0 a0_o a0_n a1 a2 a3) (tN (v4 - a1)+1) (v3,v4,v4))
  else
   (.inr v3))
theorem aEn (a0:List Int)(a0_o:Nat)(a0_n:Nat)(a1:Int)(a2:Int)(a3:eP×Int)(l0:a0.length<=2^63-1)(l3_1_1:a3.1.1.length<=2^63-1)(l3_1_2_2_1:a3.1.2.2.1.length<=2^63-1)(l3_1_2_2_2:a3.1.2.2.2.length<=2^63-1)(hw:a0_o+a0_n<=a0.length/\a0.length<=1048576)(hr:InR a3.1.1.length a0)(hab:0<=a1/\a1<=a2/\a2<=↑a0_n) {cx:Cx} (hcx:cx.base=4)
 (n0:Nat) (g0:∀(v3:List Int) (v4:Int),(0<=v4)/\(v3.length=a0.length)/\(InR a3.1.1.length v3)/\(a1 < v4)/\(v4<=a2+1)->tN (a2 - v4) < n0->Aw.Good Tryz.prog none 9 (bodyPost Tryz.prog Tryz.f109 (RR cx (.t []) [] [(.live true true (flat c3 (aH (eD a0 a0_o a0_n a1 a2 a3) n0 (v3,v4)))),.un,.un,.un])) cx [] (.l kH n0::kI) (jI a0 a0_o a0_n a1 a2 a3 (flat c3 v3) v3.length v4)):∀(n:Nat) (v5:List Int) (v6 v7:Int),(v5.length=a0.length)/\(InR a3.1.1.length v5)/\(a1<=v7)/\(v7<=v6)/\(a1 < v6)/\(v6 < a2)/\((0<=v6))/\((v5.length=a0.length))/\((InR a3.1.1.length v5))/\((a1 < v6))/\((v6<=a2+1))/\(v6 < a2)/\(tN (a2 - v6) < n0+1)->tN (v7 - a1) < n->Aw.Good Tryz.prog none 9 (bodyPost Tryz.prog Tryz.f109 (RR cx (.t []) [] [(.live true true (flat c3 (bA (eD a0 a0_o a0_n a1 a2 a3) n0 (aH (dH a0 a0_o a0_n a1 a2 a3) n (v5,v6,v7))))),.un,.un,.un])) cx [] (.l qG n::qH n0) (oL a0 a0_o a0_n a1 a2 a3 (flat c3 v5) v5.length v6 v7):=by
 intro n
 induction n with
 | zero=>intro v5 v6 v7 hi hn;exact absurd hn (eI _)
 | succ n ih =>
  intro v5 v6 v7 hi hn
  refine aR ?_
  have hw_s9m1:=aS (n:=v7 - 1) (by omega) (by omega)
  cases h0:(decide ((v7:Int) > a1)) with
  | true =>
   have q0:=cJ h0
   let t1:List (St Tryz.prog):=[.d h0,.i v7 a0_n,cQ aF v5 a0_o v7 0 1,.i (W (v7 - 1)) a0_n,cQ aF v5 a0_o (W (v7 - 1)) 0 1,.c [1,2,0,3] (C75 ((a3.1.1,a3.1.2.1,(v5,a3.1.2.2.2)),a3.2) (v5.getD (a0_o+tN v7) dF) (v5.getD (a0_o+tN (W (v7 - 1))) dF) (by omega) (by(try simp only [Lt]);omega) (by omega) (hi.2.1.at (by omega)) (hi.2.1.at (by omega)))]
   cases h1:(decide (((pL ((a3.1.1,a3.1.2.1,(v5,a3.1.2.2.2)),a3.2) (v5.getD (a0_o+tN v7) dF) (v5.getD (a0_o+tN (W (v7 - 1))) dF)):Int) < 0)) with
   | true =>
    have q1:=cJ h1
    have e:=Eq.refl (dH a0 a0_o a0_n a1 a2 a3 (v5,v6,v7));conv at e=>rhs;simp only [dH,h0,h1,aT]
    rw [aI e]
    refine ba (t1++[.d h1,.i (W (v7 - 1)) a0_n,cQ aF v5 a0_o (W (v7 - 1)) 0 1,.i v7 a0_n,cQ aF v5 a0_o v7 0 1,.i v7 a0_n,.p (show((0+a0_o*1+tN v7*1)+1<=(flat c3 v5).length) from(aX aF (by first | omega | (simp only [Lt];omega)) (o:=0) (Nb rfl))),.i (W (v7 - 1)) a0_n,.p (show((0+a0_o*1+tN (W (v7 - 1))*1)+1<=(splice (flat c3 v5) (0+a0_o*1+tN v7*1) [(iv (v5.getD (a0_o+tN (W (v7 - 1))) dF))]).length) from(by rw [show(splice (flat c3 v5) (0+a0_o*1+tN v7*1) [(iv (v5.getD (a0_o+tN (W (v7 - 1))) dF))])=flat c3 (v5.set (a0_o+tN v7) (v5.getD (a0_o+tN (W (v7 - 1))) dF)) from(aP aF (by first | omega | (simp only [Lt];omega)) (o:=0) (d:=dF) (Nb rfl) rfl)];exact aX aF (by first | omega | (simp only [Lt];omega)) (o:=0) (Nb rfl)))]) [] [0,1,2,3,8,9] [] hcx (m:=n) qG (qH n0) (oL a0 a0_o a0_n a1 a2 a3 (splice (splice (flat c3 v5) (0+a0_o*1+tN v7*1) [(iv (v5.getD (a0_o+tN (W (v7 - 1))) dF))]) (0+a0_o*1+tN (W (v7 - 1))*1) [(iv (v5.getD (a0_o+tN v7) dF))]) (v5.length) v6 (W (v7 - 1))) (by kernel_rfl) ?_
    have z0:(splice (splice (flat c3 v5) (0+a0_o*1+tN v7*1) [(iv (v5.getD (a0_o+tN (W (v7 - 1))) dF))]) (0+a0_o*1+tN (W (v7 - 1))*1) [(iv (v5.getD (a0_o+tN v7) dF))])=flat c3 ((v5.set (a0_o+tN v7) (v5.getD (a0_o+tN (W (v7 - 1))) dF)).set (a0_o+tN (W (v7 - 1))) (v5.getD (a0_o+tN v7) dF)):=(by rw [show(splice (flat c3 v5) (0+a0_o*1+tN v7*1) [(iv (v5.getD (a0_o+tN (W (v7 - 1))) dF))])=flat c3 (v5.set (a0_o+tN v7) (v5.getD (a0_o+tN (W (v7 - 1))) dF)) from(aP aF (by first | omega | (simp only [Lt];omega)) (o:=0) (d:=dF) (Nb rfl) rfl)];exact aP aF (by first | omega | (simp only [Lt];omega)) (o:=0) (d:=dF) (Nb rfl) rfl)
    have z1:v5.length=((v5.set (a0_o+tN v7) (v5.getD (a0_o+tN (W (v7 - 1))) dF)).set (a0_o+tN (W (v7 - 1))) (v5.getD (a0_o+tN v7) dF)).length:=by simp
    rw [z0,z1]
    exact ih ((v5.set (a0_o+tN v7) (v5.getD (a0_o+tN (W (v7 - 1))) dF)).set (a0_o+tN (W (v7 - 1))) (v5.getD (a0_o+tN v7) dF)) v6 (W (v7 - 1)) (by refine⟨?_,?_,?_,?_,?_,?_,?_,?_,?_,?_,?_,?_,?_⟩<;>first | omega | assumption | exact hi.2.1 | exact hi.2.2.1 | (simp only [Lt];omega) | exact InR.swap hi.2.1 (by omega) (by omega)) (by omega)
   | false =>
    have q1:=cN h1
    have e:=Eq.refl (dH a0 a0_o a0_n a1 a2 a3 (v5,v6,v7));conv at e=>rhs;simp only [dH,h0,h1,aT]
    rw [aJ,e]
    refine ba (t1++[.d h1]) [] [0,1,2,3,8] [] hcx (m:=n0) kH (kI) (jI a0 a0_o a0_n a1 a2 a3 (flat c3 v5) (v5.length) (W (v6+1))) (by kernel_rfl) ?_
    have z0:(W (v6+1))=(v6+1):=aS (by omega) (by omega)
    rw [z0]
    exact g0 v5 (v6+1) (by refine⟨?_,?_,?_,?_⟩<;>first | omega | assumption | exact hi.2.1 | exact hi.2.2.1 | (simp only [Lt];omega) | exact InR.swap hi.2.1 (by omega) (by omega)) (by omega)
  | false =>
   have q0:=cN h0
   have e:=Eq.refl (dH a0 a0_o a0_n a1 a2 a3 (v5,v6,v7));conv at e=>rhs;simp only [dH,h0,aT]
   rw [aJ,e]
   refine ba [.d h0] [] [0,1,2,3,8] [] hcx (m:=n0) kH (kI) (jI a0 a0_o a0_n a1 a2 a3 (flat c3 v5) (v5.length) (W (v6+1))) (by kernel_rfl) ?_
   have z0:(W (v6+1))=(v6+1):=aS (by omega) (by omega)
   rw [z0]
   exact g0 v5 (v6+1) (by refine⟨?_,?_,?_,?_⟩<;>first | omega | assumption | exact hi.2.1 | exact hi.2.2.1 | (simp only [Lt];omega) | exact InR.swap hi.2.1 (by omega) (by omega)) (by omega)
theorem aEo (a0:List Int)(a0_o:Nat)(a0_n:Nat)(a1:Int)(a2:Int)(a3:eP×Int)(l0:a0.length<=2^63-1)(l3_1_1:a3.1.1.length<=2^63-1)(l3_1_2_2_1:a3.1.2.2.1.length<=2^63-1)(l3_1_2_2_2:a3.1.2.2.2.length<=2^63-1)(hw:a0_o+a0_n<=a0.length/\a0.length<=1048576)(hr:InR a3.1.1.length a0)(hab:0<=a1/\a1<=a2/\a2<=↑a0_n) {cx:Cx} (hcx:cx.base=4):∀(n:Nat) (v3:List Int) (v4:Int),(0<=v4)/\(v3.length=a0.length)/\(InR a3.1.1.length v3)/\(a1 < v4)/\(v4<=a2+1)->tN (a2 - v4) < n->Aw.Good Tryz.prog none 9 (bodyPost Tryz.prog Tryz.f109 (RR cx (.t []) [] [(.live true true (flat c3 (aH (eD a0 a0_o a0_n a1 a2 a3) n (v3,v4)))),.un,.un,.un])) cx [] (.l kH n::kI) (jI a0 a0_o a0_n a1 a2 a3 (flat c3 v3) v3.length v4):=by
 intro n
 induction n with
 | zero=>intro v3 v4 hi hn;exact absurd hn (eI _)
 | succ n ih =>
  intro v3 v4 hi hn
  refine aR ?_
  have hw_s8p1:=aS (n:=v4+1) (by omega) (by omega)
  cases h0:(decide ((v4:Int) < a2)) with
  | true =>
   have q0:=cJ h0
   have e:=Eq.refl (eD a0 a0_o a0_n a1 a2 a3 (v3,v4));conv at e=>rhs;simp only [eD,h0,aT]
   rw [aJ,e]
   refine en [.d h0] [] [0,1,2,3,8,9] [] hcx qG (qH n) (oL a0 a0_o a0_n a1 a2 a3 (flat c3 v3) (v3.length) v4 v4) (tN (v4 - a1)+1) (by kernel_rfl) ?_
   exact aEn a0 a0_o a0_n a1 a2 a3 l0 l3_1_1 l3_1_2_2_1 l3_1_2_2_2 hw hr hab hcx n ih (tN (v4 - a1)+1) v3 v4 v4 (by refine⟨?_,?_,?_,?_,?_,?_,?_,?_,?_,?_,?_,?_,?_⟩<;>first | omega | assumption | exact hi.2.1 | exact hi.2.2.1 | (simp only [Lt];omega) | exact InR.swap hi.2.1 (by omega) (by omega)) (by omega)
  | false =>
   have q0:=cN h0
   have e:=Eq.refl (eD a0 a0_o a0_n a1 a2 a3 (v3,v4));conv at e=>rhs;simp only [eD,h0,aT]
   rw [aJ,e]
   try dsimp only [bA]
   try dsimp only
   exact rtn [.d h0] [] [0] [] hcx (by kernel_rfl)
def hP (a0:List Int)(a0_o:Nat)(a0_n:Nat)(a1:Int)(a2:Int)(a3:eP×Int):List Int :=
 (aH (eD a0 a0_o a0_n a1 a2 a3) (tN (a2 - (W (a1+1)))+1) (a0,(W (a1+1))))
theorem aI8 (a0:List Int)(a0_o:Nat)(a0_n:Nat)(a1:Int)(a2:Int)(a3:eP×Int)(l0:a0.length<=2^63-1)(l3_1_1:a3.1.1.length<=2^63-1)(l3_1_2_2_1:a3.1.2.2.1.length<=2^63-1)(l3_1_2_2_2:a3.1.2.2.2.length<=2^63-1)(hw:a0_o+a0_n<=a0.length/\a0.length<=1048576)(hr:InR a3.1.1.length a0)(hab:0<=a1/\a1<=a2/\a2<=↑a0_n):Con Tryz.prog 109 [(.s 0 (0+a0_o*1) a0_n 1),(iv a1),(iv a2),(.f 1000075 [(.a [(.p 1 0),(iv a3.2)])])] [(.live true true (flat c3 a0)),(.live false false [(.s 2 0 a3.1.1.length 10),(iv a3.1.2.1),(.s 0 0 a0.length 1),(.s 3 0 a3.1.2.2.2.length 8)]),(.live false true (flat dC a3.1.1)),(.live false true (flat cB a3.1.2.2.2))] (.t []) [] [(.live true true (flat c3 (hP a0 a0_o a0_n a1 a2 a3))),.un,.un,.un]:=by
 refine aY Tryz.func109 (by kernel_rfl) fun cx hcx=>?_
 have hw_a:=aS (n:=a1+1) (by omega) (by omega)
 have e:=Eq.refl (hP a0 a0_o a0_n a1 a2 a3);conv at e=>rhs;simp only [hP]
 rw [e]
 refine en [] [] [0,1,2,3,8] [] hcx kH (kI) (jI a0 a0_o a0_n a1 a2 a3 (flat c3 a0) (a0.length) (W (a1+1))) (tN (a2 - (W (a1+1)))+1) (by kernel_rfl) ?_
 exact aEo a0 a0_o a0_n a1 a2 a3 l0 l3_1_1 l3_1_2_2_1 l3_1_2_2_2 hw hr hab hcx (tN (a2 - (W (a1+1)))+1) a0 (W (a1+1)) (by refine⟨?_,?_,?_,?_⟩<;>first | omega | assumption | exact hi.2.1 | exact hi.2.2.1 | (simp only [Lt];omega) | exact InR.swap hi.2.1 (by omega) (by omega)) (by omega)
noncomputable def qI:Code:=(aM [1,1] [] (aL Tryz.f113) []).1
noncomputable def qJ:List K:=(aM [1,1] [] (aL Tryz.f113) []).2
def oM (a0:List Int)(a0_o:Nat)(a0_n:Nat)(a1:Int)(a2:Int)(a3:eP×Int)(v1c:List SV)(v1n:Nat)(v2 v3:Int):LS:=⟨gD 34 [(0,(.s 0 (0+a0_o*1) a0_n 1)),(8,(iv v2)),(9,(iv v3))],[(.live true true v1c),(.live false false [(.s 2 0 a3.1.1.length 10),(iv a3.1.2.1),(.s 0 0 v1n 1),(.s 3 0 a3.1.2.2.2.length 8)]),(.live false true (flat dC a3.1.1)),(.live false true (flat cB a3.1.2.2.2))]⟩
def fG (a0:List Int)(a0_o:Nat)(a0_n:Nat)(a1:Int)(a2:Int)(a3:eP×Int):List Int×Int×Int->(List Int×Int×Int)⊕(List Int)
 | (v1,v2,v3) =>
  (bif (decide ((v2:Int) < v3)) then
   (.inl (((v1.set (a0_o+tN v2) (v1.getD (a0_o+tN v3) dF)).set (a0_o+tN v3) (v1.getD (a0_o+tN v2) dF)),(v2+1),(W (v3 - 1))))
  else
   (.inr v1))
theorem aEp (a0:List Int)(a0_o:Nat)(a0_n:Nat)(a1:Int)(a2:Int)(a3:eP×Int)(l0:a0.length<=2^63-1)(l3_1_1:a3.1.1.length<=2^63-1)(l3_1_2_2_1:a3.1.2.2.1.length<=2^63-1)(l3_1_2_2_2:a3.1.2.2.2.length<=2^63-1)(hw:a0_o+a0_n<=a0.length/\a0.length<=1048576)(hr:InR a3.1.1.length a0)(hab:0<=a1/\a1<=a2/\a2<=↑a0_n) {cx:Cx} (hcx:cx.base=4):∀(n:Nat) (v1:List Int) (v2 v3:Int),(v1.length=a0.length)/\(InR a3.1.1.length v1)/\(a1<=v2)/\(-1<=v3)/\(v3 < a2)/\(v2<=a2)->tN (v3 - v2) < n->Aw.Good Tryz.prog none 9 (bodyPost Tryz.prog Tryz.f113 (RR cx (.t []) [] [(.live true true (flat c3 (aH (fG a0 a0_o a0_n a1 a2 a3) n (v1,v2,v3)))),.un,.un,.un])) cx [] (.l qI n::qJ) (oM a0 a0_o a0_n a1 a2 a3 (flat c3 v1) v1.length v2 v3):=by
 intro n
 induction n with
 | zero=>intro v1 v2 v3 hi hn;exact absurd hn (eI _)
 | succ n ih =>
  intro v1 v2 v3 hi hn
  refine aR ?_
  have hw_0:W (v2+1)=v2+1:=(aS (n:=v2+1) (by omega) (by omega)).trans (by omega)
  have hw_1:W (v3 - 1)=v3 - 1:=(aS (n:=v3 - 1) (by omega) (by omega)).trans (by omega)
  cases h0:(decide ((v2:Int) < v3)) with
  | true =>
   have q0:=cJ h0
   have e:=Eq.refl (fG a0 a0_o a0_n a1 a2 a3 (v1,v2,v3));conv at e=>rhs;simp only [fG,h0,aT]
   rw [aI e]
   refine ba [.d h0,.i v3 a0_n,cQ aF v1 a0_o v3 0 1,.i v2 a0_n,cQ aF v1 a0_o v2 0 1,.i v2 a0_n,.p (show((0+a0_o*1+tN v2*1)+1<=(flat c3 v1).length) from(aX aF (by first | omega | (simp only [Lt];omega)) (o:=0) (Nb rfl))),.i v3 a0_n,.p (show((0+a0_o*1+tN v3*1)+1<=(splice (flat c3 v1) (0+a0_o*1+tN v2*1) [(iv (v1.getD (a0_o+tN v3) dF))]).length) from(by rw [show(splice (flat c3 v1) (0+a0_o*1+tN v2*1) [(iv (v1.getD (a0_o+tN v3) dF))])=flat c3 (v1.set (a0_o+tN v2) (v1.getD (a0_o+tN v3) dF)) from(aP aF (by first | omega | (simp only [Lt];omega)) (o:=0) (d:=dF) (Nb rfl) rfl)];exact aX aF (by first | omega | (simp only [Lt];omega)) (o:=0) (Nb rfl)))] [] [0,8,9] [] hcx (m:=n) qI (qJ) (oM a0 a0_o a0_n a1 a2 a3 (splice (splice (flat c3 v1) (0+a0_o*1+tN v2*1) [(iv (v1.getD (a0_o+tN v3) dF))]) (0+a0_o*1+tN v3*1) [(iv (v1.getD (a0_o+tN v2) dF))]) (v1.length) (W (v2+1)) (W (v3 - 1))) (by kernel_rfl) ?_
   have z0:(W (v2+1))=(v2+1):=aS (by omega) (by omega)
   have z1:(splice (splice (flat c3 v1) (0+a0_o*1+tN v2*1) [(iv (v1.getD (a0_o+tN v3) dF))]) (0+a0_o*1+tN v3*1) [(iv (v1.getD (a0_o+tN v2) dF))])=flat c3 ((v1.set (a0_o+tN v2) (v1.getD (a0_o+tN v3) dF)).set (a0_o+tN v3) (v1.getD (a0_o+tN v2) dF)):=(by rw [show(splice (flat c3 v1) (0+a0_o*1+tN v2*1) [(iv (v1.getD (a0_o+tN v3) dF))])=flat c3 (v1.set (a0_o+tN v2) (v1.getD (a0_o+tN v3) dF)) from(aP aF (by first | omega | (simp only [Lt];omega)) (o:=0) (d:=dF) (Nb rfl) rfl)];exact aP aF (by first | omega | (simp only [Lt];omega)) (o:=0) (d:=dF) (Nb rfl) rfl)
   have z2:v1.length=((v1.set (a0_o+tN v2) (v1.getD (a0_o+tN v3) dF)).set (a0_o+tN v3) (v1.getD (a0_o+tN v2) dF)).length:=by simp
   rw [z0,z1,z2]
   exact ih ((v1.set (a0_o+tN v2) (v1.getD (a0_o+tN v3) dF)).set (a0_o+tN v3) (v1.getD (a0_o+tN v2) dF)) (v2+1) (W (v3 - 1)) (by refine⟨?_,?_,?_,?_,?_,?_⟩<;>first | omega | assumption | exact hi.2.1 | exact hi.2.2.1 | (simp only [Lt];omega) | exact InR.swap hi.2.1 (by omega) (by omega)) (by omega)
  | false =>
   have q0:=cN h0
   have e:=Eq.refl (fG a0 a0_o a0_n a1 a2 a3 (v1,v2,v3));conv at e=>rhs;simp only [fG,h0,aT]
   rw [aJ,e]
   try dsimp only [bA]
   try dsimp only
   exact rtn [.d h0] [] [0] [] hcx (by kernel_rfl)
def fD (a0:List Int)(a0_o:Nat)(a0_n:Nat)(a1:Int)(a2:Int)(a3:eP×Int):List Int :=
 (aH (fG a0 a0_o a0_n a1 a2 a3) (tN ((W (a2 - 1)) - a1)+1) (a0,a1,(W (a2 - 1))))
theorem aI9 (a0:List Int)(a0_o:Nat)(a0_n:Nat)(a1:Int)(a2:Int)(a3:eP×Int)(l0:a0.length<=2^63-1)(l3_1_1:a3.1.1.length<=2^63-1)(l3_1_2_2_1:a3.1.2.2.1.length<=2^63-1)(l3_1_2_2_2:a3.1.2.2.2.length<=2^63-1)(hw:a0_o+a0_n<=a0.length/\a0.length<=1048576)(hr:InR a3.1.1.length a0)(hab:0<=a1/\a1<=a2/\a2<=↑a0_n):Con Tryz.prog 113 [(.s 0 (0+a0_o*1) a0_n 1),(iv a1),(iv a2),(.f 1000075 [(.a [(.p 1 0),(iv a3.2)])])] [(.live true true (flat c3 a0)),(.live false false [(.s 2 0 a3.1.1.length 10),(iv a3.1.2.1),(.s 0 0 a0.length 1),(.s 3 0 a3.1.2.2.2.length 8)]),(.live false true (flat dC a3.1.1)),(.live false true (flat cB a3.1.2.2.2))] (.t []) [] [(.live true true (flat c3 (fD a0 a0_o a0_n a1 a2 a3))),.un,.un,.un]:=by
 refine aY Tryz.func113 (by kernel_rfl) fun cx hcx=>?_
 have hw_0:W (a2 - 1)=a2 - 1:=(aS (n:=a2 - 1) (by omega) (by omega)).trans (by omega)
 have e:=Eq.refl (fD a0 a0_o a0_n a1 a2 a3);conv at e=>rhs;simp only [fD]
 rw [e]
 refine en [] [] [0,8,9] [] hcx qI (qJ) (oM a0 a0_o a0_n a1 a2 a3 (flat c3 a0) (a0.length) a1 (W (a2 - 1))) (tN ((W (a2 - 1)) - a1)+1) (by kernel_rfl) ?_
 exact aEp a0 a0_o a0_n a1 a2 a3 l0 l3_1_1 l3_1_2_2_1 l3_1_2_2_2 hw hr hab hcx (tN ((W (a2 - 1)) - a1)+1) a0 a1 (W (a2 - 1)) (by refine⟨?_,?_,?_,?_,?_,?_⟩<;>first | omega | assumption | exact hi.2.1 | exact hi.2.2.1 | (simp only [Lt];omega) | exact InR.swap hi.2.1 (by omega) (by omega)) (by omega)
noncomputable def kJ:Code:=(aM [1] [] (aL Tryz.f128) []).1
noncomputable def kK:List K:=(aM [1] [] (aL Tryz.f128) []).2
def jJ (a0:List Int)(a0_o:Nat)(a0_n:Nat)(a1:Int)(a2:Int)(a3:Int)(a4:eP×Int)(v1c:List SV)(v1n:Nat)(v2:Int):LS:=⟨gD 82 [(0,(.s 0 (0+a0_o*1) a0_n 1)),(2,(iv a2)),(3,(iv a3)),(4,(.f 1000075 [(.a [(.p 1 0),(iv a4.2)])])),(10,(iv v2))],[(.live true true v1c),(.live false false [(.s 2 0 a4.1.1.length 10),(iv a4.1.2.1),(.s 0 0 v1n 1),(.s 3 0 a4.1.2.2.2.length 8)]),(.live false true (flat dC a4.1.1)),(.live false true (flat cB a4.1.2.2.2))]⟩
def bM (a0:List Int)(a0_o:Nat)(a0_n:Nat)(a1:Int)(a2:Int)(a3:Int)(a4:eP×Int):List Int×Int->(List Int×Int)⊕(List Int)
 | (v1,v2) =>
  (bif (decide (((W ((W (2*v2))+1)):Int)≥a2)) then
   (.inr v1)
  else
   (bif (decide (((W ((W ((W (2*v2))+1))+1)):Int) < a2)) then
    (bif (decide (((pL ((a4.1.1,a4.1.2.1,(v1,a4.1.2.2.2)),a4.2) (v1.getD (a0_o+tN (W (a3+(W ((W (2*v2))+1))))) dF) (v1.getD (a0_o+tN (W ((W (a3+(W ((W (2*v2))+1))))+1))) dF)):Int) < 0)) then
     (bif (!(decide (((pL ((a4.1.1,a4.1.2.1,(v1,a4.1.2.2.2)),a4.2) (v1.getD (a0_o+tN (W (a3+v2))) dF) (v1.getD (a0_o+tN (W (a3+(W ((W ((W (2*v2))+1))+1))))) dF)):Int) < 0))) then
      (.inr v1)
     else
      (.inl (((v1.set (a0_o+tN (W (a3+v2))) (v1.getD (a0_o+tN (W (a3+(W ((W ((W (2*v2))+1))+1))))) dF)).set (a0_o+tN (W (a3+(W ((W ((W (2*v2))+1))+1))))) (v1.getD (a0_o+tN (W (a3+v2))) dF)),(W ((W ((W (2*v2))+1))+1)))))
    else
     (bif (!(decide (((pL ((a4.1.1,a4.1.2.1,(v1,a4.1.2.2.2)),a4.2) (v1.getD (a0_o+tN (W (a3+v2))) dF) (v1.getD (a0_o+tN (W (a3+(W ((W (2*v2))+1))))) dF)):Int) < 0))) then
      (.inr v1)
     else
      (.inl (((v1.set (a0_o+tN (W (a3+v2))) (v1.getD (a0_o+tN (W (a3+(W ((W (2*v2))+1))))) dF)).set (a0_o+tN (W (a3+(W ((W (2*v2))+1))))) (v1.getD (a0_o+tN (W (a3+v2))) dF)),(W ((W (2*v2))+1))))))
   else
    (bif (!(decide (((pL ((a4.1.1,a4.1.2.1,(v1,a4.1.2.2.2)),a4.2) (v1.getD (a0_o+tN (W (a3+v2))) dF) (v1.getD (a0_o+tN (W (a3+(W ((W (2*v2))+1))))) dF)):Int) < 0))) then
     (.inr v1)
    else
     (.inl (((v1.set (a0_o+tN (W (a3+v2))) (v1.getD (a0_o+tN (W (a3+(W ((W (2*v2))+1))))) dF)).set (a0_o+tN (W (a3+(W ((W (2*v2))+1))))) (v1.getD (a0_o+tN (W (a3+v2))) dF)),(W ((W (2*v2))+1)))))))
theorem aEq (a0:List Int)(a0_o:Nat)(a0_n:Nat)(a1:Int)(a2:Int)(a3:Int)(a4:eP×Int)(l0:a0.length<=2^63-1)(l4_1_1:a4.1.1.length<=2^63-1)(l4_1_2_2_1:a4.1.2.2.1.length<=2^63-1)(l4_1_2_2_2:a4.1.2.2.2.length<=2^63-1)(hw:a0_o+a0_n<=a0.length/\a0.length<=1048576)(hr:InR a4.1.1.length a0)(hab:0<=a1/\a1<=1048576/\0<=a3/\0<=a2/\a3+a2<=↑a0_n) {cx:Cx} (hcx:cx.base=4):∀(n:Nat) (v1:List Int) (v2:Int),(v1.length=a0.length)/\(InR a4.1.1.length v1)/\(0<=v2)/\(v2<=1048576)->tN (a2 - v2) < n->Aw.Good Tryz.prog none 9 (bodyPost Tryz.prog Tryz.f128 (RR cx (.t []) [] [(.live true true (flat c3 (aH (bM a0 a0_o a0_n a1 a2 a3 a4) n (v1,v2)))),.un,.un,.un])) cx [] (.l kJ n::kK) (jJ a0 a0_o a0_n a1 a2 a3 a4 (flat c3 v1) v1.length v2):=by
 intro n
 induction n with
 | zero=>intro v1 v2 hi hn;exact absurd hn (eI _)
 | succ n ih =>
  intro v1 v2 hi hn
  refine aR ?_
  have hw_0:W (2*v2)=2*v2:=(aS (n:=2*v2) (by omega) (by omega)).trans (by omega)
  have hw_1:W ((W (2*v2))+1)=2*v2+1:=(aS (n:=(W (2*v2))+1) (by omega) (by omega)).trans (by omega)
  have hw_2:W ((W ((W (2*v2))+1))+1)=2*v2+2:=(aS (n:=(W ((W (2*v2))+1))+1) (by omega) (by omega)).trans (by omega)
  have hw_3:W (a3+(W ((W (2*v2))+1)))=a3+2*v2+1:=(aS (n:=a3+(W ((W (2*v2))+1))) (by omega) (by omega)).trans (by omega)
  have hw_4:W ((W (a3+(W ((W (2*v2))+1))))+1)=a3+2*v2+2:=(aS (n:=(W (a3+(W ((W (2*v2))+1))))+1) (by omega) (by omega)).trans (by omega)
  have hw_5:W (a3+v2)=a3+v2:=(aS (n:=a3+v2) (by omega) (by omega)).trans (by omega)
  have hw_6:W (a3+(W ((W ((W (2*v2))+1))+1)))=a3+2*v2+2:=(aS (n:=a3+(W ((W ((W (2*v2))+1))+1))) (by omega) (by omega)).trans (by omega)
  cases h0:(decide (((W ((W (2*v2))+1)):Int)≥a2)) with
  | true =>
   have q0:=cJ h0
   have e:=Eq.refl (bM a0 a0_o a0_n a1 a2 a3 a4 (v1,v2));conv at e=>rhs;simp only [bM,h0,aT]
   rw [aJ,e]
   try dsimp only [bA]
   try dsimp only
   exact rtn [.d h0] [] [0] [] hcx (by kernel_rfl)
  | false =>
   have q0:=cN h0
   let t1:List (St Tryz.prog):=[.d h0]
   cases h1:(decide (((W ((W ((W (2*v2))+1))+1)):Int) < a2)) with
   | true =>
    have q1:=cJ h1
    let t2:List (St Tryz.prog):=(t1++[.d h1,.i (W (a3+(W ((W (2*v2))+1)))) a0_n,cQ aF v1 a0_o (W (a3+(W ((W (2*v2))+1)))) 0 1,.i (W ((W (a3+(W ((W (2*v2))+1))))+1)) a0_n,cQ aF v1 a0_o (W ((W (a3+(W ((W (2*v2))+1))))+1)) 0 1,.c [1,2,0,3] (C75 ((a4.1.1,a4.1.2.1,(v1,a4.1.2.2.2)),a4.2) (v1.getD (a0_o+tN (W (a3+(W ((W (2*v2))+1))))) dF) (v1.getD (a0_o+tN (W ((W (a3+(W ((W (2*v2))+1))))+1))) dF) (by omega) (by(try simp only [Lt]);omega) (by omega) (hi.2.1.at (by omega)) (hi.2.1.at (by omega)))])
    cases h2:(decide (((pL ((a4.1.1,a4.1.2.1,(v1,a4.1.2.2.2)),a4.2) (v1.getD (a0_o+tN (W (a3+(W ((W (2*v2))+1))))) dF) (v1.getD (a0_o+tN (W ((W (a3+(W ((W (2*v2))+1))))+1))) dF)):Int) < 0)) with
    | true =>
     have q2:=cJ h2
     let t3:List (St Tryz.prog):=(t2++[.d h2,.i (W (a3+v2)) a0_n,cQ aF v1 a0_o (W (a3+v2)) 0 1,.i (W (a3+(W ((W ((W (2*v2))+1))+1)))) a0_n,cQ aF v1 a0_o (W (a3+(W ((W ((W (2*v2))+1))+1)))) 0 1,.c [1,2,0,3] (C75 ((a4.1.1,a4.1.2.1,(v1,a4.1.2.2.2)),a4.2) (v1.getD (a0_o+tN (W (a3+v2))) dF) (v1.getD (a0_o+tN (W (a3+(W ((W ((W (2*v2))+1))+1))))) dF) (by omega) (by(try simp only [Lt]);omega) (by omega) (hi.2.1.at (by omega)) (hi.2.1.at (by omega)))])
     cases h3:(!(decide (((pL ((a4.1.1,a4.1.2.1,(v1,a4.1.2.2.2)),a4.2) (v1.getD (a0_o+tN (W (a3+v2))) dF) (v1.getD (a0_o+tN (W (a3+(W ((W ((W (2*v2))+1))+1))))) dF)):Int) < 0))) with
     | true =>
      have e:=Eq.refl (bM a0 a0_o a0_n a1 a2 a3 a4 (v1,v2));conv at e=>rhs;simp only [bM,h0,h1,h2,h3,aT]
      rw [aJ,e]
      try dsimp only [bA]
      try dsimp only
      exact wW (t3++[.d h3]) [] [0] [] hcx (by kernel_rfl)
     | false =>
      have e:=Eq.refl (bM a0 a0_o a0_n a1 a2 a3 a4 (v1,v2));conv at e=>rhs;simp only [bM,h0,h1,h2,h3,aT]
      rw [aI e]
      refine ba (t3++[.d h3,.i (W (a3+(W ((W ((W (2*v2))+1))+1)))) a0_n,cQ aF v1 a0_o (W (a3+(W ((W ((W (2*v2))+1))+1)))) 0 1,.i (W (a3+v2)) a0_n,cQ aF v1 a0_o (W (a3+v2)) 0 1,.i (W (a3+v2)) a0_n,.p (show((0+a0_o*1+tN (W (a3+v2))*1)+1<=(flat c3 v1).length) from(aX aF (by first | omega | (simp only [Lt];omega)) (o:=0) (Nb rfl))),.i (W (a3+(W ((W ((W (2*v2))+1))+1)))) a0_n,.p (show((0+a0_o*1+tN (W (a3+(W ((W ((W (2*v2))+1))+1))))*1)+1<=(splice (flat c3 v1) (0+a0_o*1+tN (W (a3+v2))*1) [(iv (v1.getD (a0_o+tN (W (a3+(W ((W ((W (2*v2))+1))+1))))) dF))]).length) from(by rw [show(splice (flat c3 v1) (0+a0_o*1+tN (W (a3+v2))*1) [(iv (v1.getD (a0_o+tN (W (a3+(W ((W ((W (2*v2))+1))+1))))) dF))])=flat c3 (v1.set (a0_o+tN (W (a3+v2))) (v1.getD (a0_o+tN (W (a3+(W ((W ((W (2*v2))+1))+1))))) dF)) from(aP aF (by first | omega | (simp only [Lt];omega)) (o:=0) (d:=dF) (Nb rfl) rfl)];exact aX aF (by first | omega | (simp only [Lt];omega)) (o:=0) (Nb rfl)))]) [] [0,2,3,4,10] [] hcx (m:=n) kJ (kK) (jJ a0 a0_o a0_n a1 a2 a3 a4 (splice (splice (flat c3 v1) (0+a0_o*1+tN (W (a3+v2))*1) [(iv (v1.getD (a0_o+tN (W (a3+(W ((W ((W (2*v2))+1))+1))))) dF))]) (0+a0_o*1+tN (W (a3+(W ((W ((W (2*v2))+1))+1))))*1) [(iv (v1.getD (a0_o+tN (W (a3+v2))) dF))]) (v1.length) (W ((W ((W (2*v2))+1))+1))) (by kernel_rfl) ?_
      have z0:(splice (splice (flat c3 v1) (0+a0_o*1+tN (W (a3+v2))*1) [(iv (v1.getD (a0_o+tN (W (a3+(W ((W ((W (2*v2))+1))+1))))) dF))]) (0+a0_o*1+tN (W (a3+(W ((W ((W (2*v2))+1))+1))))*1) [(iv (v1.getD (a0_o+tN (W (a3+v2))) dF))])=flat c3 ((v1.set (a0_o+tN (W (a3+v2))) (v1.getD (a0_o+tN (W (a3+(W ((W ((W (2*v2))+1))+1))))) dF)).set (a0_o+tN (W (a3+(W ((W ((W (2*v2))+1))+1))))) (v1.getD (a0_o+tN (W (a3+v2))) dF)):=(by rw [show(splice (flat c3 v1) (0+a0_o*1+tN (W (a3+v2))*1) [(iv (v1.getD (a0_o+tN (W (a3+(W ((W ((W (2*v2))+1))+1))))) dF))])=flat c3 (v1.set (a0_o+tN (W (a3+v2))) (v1.getD (a0_o+tN (W (a3+(W ((W ((W (2*v2))+1))+1))))) dF)) from(aP aF (by first | omega | (simp only [Lt];omega)) (o:=0) (d:=dF) (Nb rfl) rfl)];exact aP aF (by first | omega | (simp only [Lt];omega)) (o:=0) (d:=dF) (Nb rfl) rfl)
      have z1:v1.length=((v1.set (a0_o+tN (W (a3+v2))) (v1.getD (a0_o+tN (W (a3+(W ((W ((W (2*v2))+1))+1))))) dF)).set (a0_o+tN (W (a3+(W ((W ((W (2*v2))+1))+1))))) (v1.getD (a0_o+tN (W (a3+v2))) dF)).length:=by simp
      rw [z0,z1]
      exact ih ((v1.set (a0_o+tN (W (a3+v2))) (v1.getD (a0_o+tN (W (a3+(W ((W ((W (2*v2))+1))+1))))) dF)).set (a0_o+tN (W (a3+(W ((W ((W (2*v2))+1))+1))))) (v1.getD (a0_o+tN (W (a3+v2))) dF)) (W ((W ((W (2*v2))+1))+1)) (by refine⟨?_,?_,?_,?_⟩<;>first | omega | assumption | exact hi.2.1 | exact hi.2.2.1 | (simp only [Lt];omega) | exact InR.swap hi.2.1 (by omega) (by omega)) (by omega)
    | false =>
     have q2:=cN h2
     let t3:List (St Tryz.prog):=(t2++[.d h2,.i (W (a3+v2)) a0_n,cQ aF v1 a0_o (W (a3+v2)) 0 1,.i (W (a3+(W ((W (2*v2))+1)))) a0_n,cQ aF v1 a0_o (W (a3+(W ((W (2*v2))+1)))) 0 1,.c [1,2,0,3] (C75 ((a4.1.1,a4.1.2.1,(v1,a4.1.2.2.2)),a4.2) (v1.getD (a0_o+tN (W (a3+v2))) dF) (v1.getD (a0_o+tN (W (a3+(W ((W (2*v2))+1))))) dF) (by omega) (by(try simp only [Lt]);omega) (by omega) (hi.2.1.at (by omega)) (hi.2.1.at (by omega)))])
     cases h3:(!(decide (((pL ((a4.1.1,a4.1.2.1,(v1,a4.1.2.2.2)),a4.2) (v1.getD (a0_o+tN (W (a3+v2))) dF) (v1.getD (a0_o+tN (W (a3+(W ((W (2*v2))+1))))) dF)):Int) < 0))) with
     | true =>
      have e:=Eq.refl (bM a0 a0_o a0_n a1 a2 a3 a4 (v1,v2));conv at e=>rhs;simp only [bM,h0,h1,h2,h3,aT]
      rw [aJ,e]
      try dsimp only [bA]
      try dsimp only
      exact wW (t3++[.d h3]) [] [0] [] hcx (by kernel_rfl)
     | false =>
      have e:=Eq.refl (bM a0 a0_o a0_n a1 a2 a3 a4 (v1,v2));conv at e=>rhs;simp only [bM,h0,h1,h2,h3,aT]
      rw [aI e]
      refine ba (t3++[.d h3,.i (W (a3+(W ((W (2*v2))+1)))) a0_n,cQ aF v1 a0_o (W (a3+(W ((W (2*v2))+1)))) 0 1,.i (W (a3+v2)) a0_n,cQ aF v1 a0_o (W (a3+v2)) 0 1,.i (W (a3+v2)) a0_n,.p (show((0+a0_o*1+tN (W (a3+v2))*1)+1<=(flat c3 v1).length) from(aX aF (by first | omega | (simp only [Lt];omega)) (o:=0) (Nb rfl))),.i (W (a3+(W ((W (2*v2))+1)))) a0_n,.p (show((0+a0_o*1+tN (W (a3+(W ((W (2*v2))+1))))*1)+1<=(splice (flat c3 v1) (0+a0_o*1+tN (W (a3+v2))*1) [(iv (v1.getD (a0_o+tN (W (a3+(W ((W (2*v2))+1))))) dF))]).length) from(by rw [show(splice (flat c3 v1) (0+a0_o*1+tN (W (a3+v2))*1) [(iv (v1.getD (a0_o+tN (W (a3+(W ((W (2*v2))+1))))) dF))])=flat c3 (v1.set (a0_o+tN (W (a3+v2))) (v1.getD (a0_o+tN (W (a3+(W ((W (2*v2))+1))))) dF)) from(aP aF (by first | omega | (simp only [Lt];omega)) (o:=0) (d:=dF) (Nb rfl) rfl)];exact aX aF (by first | omega | (simp only [Lt];omega)) (o:=0) (Nb rfl)))]) [] [0,2,3,4,10] [] hcx (m:=n) kJ (kK) (jJ a0 a0_o a0_n a1 a2 a3 a4 (splice (splice (flat c3 v1) (0+a0_o*1+tN (W (a3+v2))*1) [(iv (v1.getD (a0_o+tN (W (a3+(W ((W (2*v2))+1))))) dF))]) (0+a0_o*1+tN (W (a3+(W ((W (2*v2))+1))))*1) [(iv (v1.getD (a0_o+tN (W (a3+v2))) dF))]) (v1.length) (W ((W (2*v2))+1))) (by kernel_rfl) ?_
      have z0:(splice (splice (flat c3 v1) (0+a0_o*1+tN (W (a3+v2))*1) [(iv (v1.getD (a0_o+tN (W (a3+(W ((W (2*v2))+1))))) dF))]) (0+a0_o*1+tN (W (a3+(W ((W (2*v2))+1))))*1) [(iv (v1.getD (a0_o+tN (W (a3+v2))) dF))])=flat c3 ((v1.set (a0_o+tN (W (a3+v2))) (v1.getD (a0_o+tN (W (a3+(W ((W (2*v2))+1))))) dF)).set (a0_o+tN (W (a3+(W ((W (2*v2))+1))))) (v1.getD (a0_o+tN (W (a3+v2))) dF)):=(by rw [show(splice (flat c3 v1) (0+a0_o*1+tN (W (a3+v2))*1) [(iv (v1.getD (a0_o+tN (W (a3+(W ((W (2*v2))+1))))) dF))])=flat c3 (v1.set (a0_o+tN (W (a3+v2))) (v1.getD (a0_o+tN (W (a3+(W ((W (2*v2))+1))))) dF)) from(aP aF (by first | omega | (simp only [Lt];omega)) (o:=0) (d:=dF) (Nb rfl) rfl)];exact aP aF (by first | omega | (simp only [Lt];omega)) (o:=0) (d:=dF) (Nb rfl) rfl)
      have z1:v1.length=((v1.set (a0_o+tN (W (a3+v2))) (v1.getD (a0_o+tN (W (a3+(W ((W (2*v2))+1))))) dF)).set (a0_o+tN (W (a3+(W ((W (2*v2))+1))))) (v1.getD (a0_o+tN (W (a3+v2))) dF)).length:=by simp
      rw [z0,z1]
      exact ih ((v1.set (a0_o+tN (W (a3+v2))) (v1.getD (a0_o+tN (W (a3+(W ((W (2*v2))+1))))) dF)).set (a0_o+tN (W (a3+(W ((W (2*v2))+1))))) (v1.getD (a0_o+tN (W (a3+v2))) dF)) (W ((W (2*v2))+1)) (by refine⟨?_,?_,?_,?_⟩<;>first | omega | assumption | exact hi.2.1 | exact hi.2.2.1 | (simp only [Lt];omega) | exact InR.swap hi.2.1 (by omega) (by omega)) (by omega)
   | false =>
    have q1:=cN h1
    let t2:List (St Tryz.prog):=(t1++[.d h1,.i (W (a3+v2)) a0_n,cQ aF v1 a0_o (W (a3+v2)) 0 1,.i (W (a3+(W ((W (2*v2))+1)))) a0_n,cQ aF v1 a0_o (W (a3+(W ((W (2*v2))+1)))) 0 1,.c [1,2,0,3] (C75 ((a4.1.1,a4.1.2.1,(v1,a4.1.2.2.2)),a4.2) (v1.getD (a0_o+tN (W (a3+v2))) dF) (v1.getD (a0_o+tN (W (a3+(W ((W (2*v2))+1))))) dF) (by omega) (by(try simp only [Lt]);omega) (by omega) (hi.2.1.at (by omega)) (hi.2.1.at (by omega)))])
    cases h2:(!(decide (((pL ((a4.1.1,a4.1.2.1,(v1,a4.1.2.2.2)),a4.2) (v1.getD (a0_o+tN (W (a3+v2))) dF) (v1.getD (a0_o+tN (W (a3+(W ((W (2*v2))+1))))) dF)):Int) < 0))) with
    | true =>
     have e:=Eq.refl (bM a0 a0_o a0_n a1 a2 a3 a4 (v1,v2));conv at e=>rhs;simp only [bM,h0,h1,h2,aT]
     rw [aJ,e]
     try dsimp only [bA]
     try dsimp only
     exact wW (t2++[.d h2]) [] [0] [] hcx (by kernel_rfl)
    | false =>
     have e:=Eq.refl (bM a0 a0_o a0_n a1 a2 a3 a4 (v1,v2));conv at e=>rhs;simp only [bM,h0,h1,h2,aT]
     rw [aI e]
     refine ba (t2++[.d h2,.i (W (a3+(W ((W (2*v2))+1)))) a0_n,cQ aF v1 a0_o (W (a3+(W ((W (2*v2))+1)))) 0 1,.i (W (a3+v2)) a0_n,cQ aF v1 a0_o (W (a3+v2)) 0 1,.i (W (a3+v2)) a0_n,.p (show((0+a0_o*1+tN (W (a3+v2))*1)+1<=(flat c3 v1).length) from(aX aF (by first | omega | (simp only [Lt];omega)) (o:=0) (Nb rfl))),.i (W (a3+(W ((W (2*v2))+1)))) a0_n,.p (show((0+a0_o*1+tN (W (a3+(W ((W (2*v2))+1))))*1)+1<=(splice (flat c3 v1) (0+a0_o*1+tN (W (a3+v2))*1) [(iv (v1.getD (a0_o+tN (W (a3+(W ((W (2*v2))+1))))) dF))]).length) from(by rw [show(splice (flat c3 v1) (0+a0_o*1+tN (W (a3+v2))*1) [(iv (v1.getD (a0_o+tN (W (a3+(W ((W (2*v2))+1))))) dF))])=flat c3 (v1.set (a0_o+tN (W (a3+v2))) (v1.getD (a0_o+tN (W (a3+(W ((W (2*v2))+1))))) dF)) from(aP aF (by first | omega | (simp only [Lt];omega)) (o:=0) (d:=dF) (Nb rfl) rfl)];exact aX aF (by first | omega | (simp only [Lt];omega)) (o:=0) (Nb rfl)))]) [] [0,2,3,4,10] [] hcx (m:=n) kJ (kK) (jJ a0 a0_o a0_n a1 a2 a3 a4 (splice (splice (flat c3 v1) (0+a0_o*1+tN (W (a3+v2))*1) [(iv (v1.getD (a0_o+tN (W (a3+(W ((W (2*v2))+1))))) dF))]) (0+a0_o*1+tN (W (a3+(W ((W (2*v2))+1))))*1) [(iv (v1.getD (a0_o+tN (W (a3+v2))) dF))]) (v1.length) (W ((W (2*v2))+1))) (by kernel_rfl) ?_
     have z0:(splice (splice (flat c3 v1) (0+a0_o*1+tN (W (a3+v2))*1) [(iv (v1.getD (a0_o+tN (W (a3+(W ((W (2*v2))+1))))) dF))]) (0+a0_o*1+tN (W (a3+(W ((W (2*v2))+1))))*1) [(iv (v1.getD (a0_o+tN (W (a3+v2))) dF))])=flat c3 ((v1.set (a0_o+tN (W (a3+v2))) (v1.getD (a0_o+tN (W (a3+(W ((W (2*v2))+1))))) dF)).set (a0_o+tN (W (a3+(W ((W (2*v2))+1))))) (v1.getD (a0_o+tN (W (a3+v2))) dF)):=(by rw [show(splice (flat c3 v1) (0+a0_o*1+tN (W (a3+v2))*1) [(iv (v1.getD (a0_o+tN (W (a3+(W ((W (2*v2))+1))))) dF))])=flat c3 (v1.set (a0_o+tN (W (a3+v2))) (v1.getD (a0_o+tN (W (a3+(W ((W (2*v2))+1))))) dF)) from(aP aF (by first | omega | (simp only [Lt];omega)) (o:=0) (d:=dF) (Nb rfl) rfl)];exact aP aF (by first | omega | (simp only [Lt];omega)) (o:=0) (d:=dF) (Nb rfl) rfl)
     have z1:v1.length=((v1.set (a0_o+tN (W (a3+v2))) (v1.getD (a0_o+tN (W (a3+(W ((W (2*v2))+1))))) dF)).set (a0_o+tN (W (a3+(W ((W (2*v2))+1))))) (v1.getD (a0_o+tN (W (a3+v2))) dF)).length:=by simp
     rw [z0,z1]
     exact ih ((v1.set (a0_o+tN (W (a3+v2))) (v1.getD (a0_o+tN (W (a3+(W ((W (2*v2))+1))))) dF)).set (a0_o+tN (W (a3+(W ((W (2*v2))+1))))) (v1.getD (a0_o+tN (W (a3+v2))) dF)) (W ((W (2*v2))+1)) (by refine⟨?_,?_,?_,?_⟩<;>first | omega | assumption | exact hi.2.1 | exact hi.2.2.1 | (simp only [Lt];omega) | exact InR.swap hi.2.1 (by omega) (by omega)) (by omega)
def dD (a0:List Int)(a0_o:Nat)(a0_n:Nat)(a1:Int)(a2:Int)(a3:Int)(a4:eP×Int):List Int :=
 (aH (bM a0 a0_o a0_n a1 a2 a3 a4) (tN (a2 - a1)+1) (a0,a1))
theorem aBk (a0:List Int)(a0_o:Nat)(a0_n:Nat)(a1:Int)(a2:Int)(a3:Int)(a4:eP×Int)(l0:a0.length<=2^63-1)(l4_1_1:a4.1.1.length<=2^63-1)(l4_1_2_2_1:a4.1.2.2.1.length<=2^63-1)(l4_1_2_2_2:a4.1.2.2.2.length<=2^63-1)(hw:a0_o+a0_n<=a0.length/\a0.length<=1048576)(hr:InR a4.1.1.length a0)(hab:0<=a1/\a1<=1048576/\0<=a3/\0<=a2/\a3+a2<=↑a0_n):Con Tryz.prog 128 [(.s 0 (0+a0_o*1) a0_n 1),(iv a1),(iv a2),(iv a3),(.f 1000075 [(.a [(.p 1 0),(iv a4.2)])])] [(.live true true (flat c3 a0)),(.live false false [(.s 2 0 a4.1.1.length 10),(iv a4.1.2.1),(.s 0 0 a0.length 1),(.s 3 0 a4.1.2.2.2.length 8)]),(.live false true (flat dC a4.1.1)),(.live false true (flat cB a4.1.2.2.2))] (.t []) [] [(.live true true (flat c3 (dD a0 a0_o a0_n a1 a2 a3 a4))),.un,.un,.un]:=by
 refine aY Tryz.func128 (by kernel_rfl) fun cx hcx=>?_
 have e:=Eq.refl (dD a0 a0_o a0_n a1 a2 a3 a4);conv at e=>rhs;simp only [dD]
 rw [e]
 refine en [] [] [0,2,3,4,10] [] hcx kJ (kK) (jJ a0 a0_o a0_n a1 a2 a3 a4 (flat c3 a0) (a0.length) a1) (tN (a2 - a1)+1) (by kernel_rfl) ?_
 exact aEq a0 a0_o a0_n a1 a2 a3 a4 l0 l4_1_1 l4_1_2_2_1 l4_1_2_2_2 hw hr hab hcx (tN (a2 - a1)+1) a0 a1 (by refine⟨?_,?_,?_,?_⟩<;>first | omega | assumption | exact hi.2.1 | exact hi.2.2.1 | (simp only [Lt];omega) | exact InR.swap hi.2.1 (by omega) (by omega)) (by omega)
noncomputable def mJ:Code:=(aM [1,1,1,1,1,1,1,1,1,0,0,1,0] [0] (aL Tryz.f116) []).1
noncomputable def mK (m0:Nat):List K:=(aM [1,1,1,1,1,1,1,1,1,0,0,1,0] [m0] (aL Tryz.f116) []).2
def lJ (a0:List Int)(a0_o:Nat)(a0_n:Nat)(a1:Int)(a2:Int)(a3:Int)(a4:eP×Int)(v13c:List SV)(v13n:Nat)(v14 v15:Int):LS:=⟨gD 178 [(0,(.s 0 (0+a0_o*1) a0_n 1)),(1,(iv a1)),(4,(.f 1000075 [(.a [(.p 1 0),(iv a4.2)])])),(12,(iv v14)),(13,(iv v15))],[(.live true true v13c),(.live false false [(.s 2 0 a4.1.1.length 10),(iv a4.1.2.1),(.s 0 0 v13n 1),(.s 3 0 a4.1.2.2.2.length 8)]),(.live false true (flat dC a4.1.1)),(.live false true (flat cB a4.1.2.2.2))]⟩
def bR (a0:List Int)(a0_o:Nat)(a0_n:Nat)(a1:Int)(a2:Int)(a3:Int)(a4:eP×Int):List Int×Int×Int->(List Int×Int×Int)⊕((List Int×Int×Int)⊕(Int×Bool×List Int))
 | (v13,v14,v15) =>
  (bif (decide ((v14:Int)<=v15)) then
   (bif (!(decide (((pL ((a4.1.1,a4.1.2.1,(v13,a4.1.2.2.2)),a4.2) (v13.getD (a0_o+tN v15) dF) (v13.getD (a0_o+tN a1) dF)):Int) < 0))) then
    (.inl (v13,v14,(W (v15 - 1))))
   else
    (bif (decide ((v14:Int) > v15)) then
     (.inr (.inr (v15,false,((v13.set (a0_o+tN v15) (v13.getD (a0_o+tN a1) dF)).set (a0_o+tN a1) (v13.getD (a0_o+tN v15) dF)))))
    else
     (.inr (.inl (((v13.set (a0_o+tN v14) (v13.getD (a0_o+tN v15) dF)).set (a0_o+tN v15) (v13.getD (a0_o+tN v14) dF)),(W (v14+1)),(W (v15 - 1)))))))
  else
   (bif (decide ((v14:Int) > v15)) then
    (.inr (.inr (v15,false,((v13.set (a0_o+tN v15) (v13.getD (a0_o+tN a1) dF)).set (a0_o+tN a1) (v13.getD (a0_o+tN v15) dF)))))
   else
    (.inr (.inl (((v13.set (a0_o+tN v14) (v13.getD (a0_o+tN v15) dF)).set (a0_o+tN v15) (v13.getD (a0_o+tN v14) dF)),(W (v14+1)),(W (v15 - 1)))))))
noncomputable def qK:Code:=(aM [1,1,1,1,1,1,1,1,1,0,0,0] [0] (aL Tryz.f116) []).1
noncomputable def qL (m0:Nat):List K:=(aM [1,1,1,1,1,1,1,1,1,0,0,0] [m0] (aL Tryz.f116) []).2
def oN (a0:List Int)(a0_o:Nat)(a0_n:Nat)(a1:Int)(a2:Int)(a3:Int)(a4:eP×Int)(v10c:List SV)(v10n:Nat)(v11 v12:Int):LS:=⟨gD 178 [(0,(.s 0 (0+a0_o*1) a0_n 1)),(1,(iv a1)),(4,(.f 1000075 [(.a [(.p 1 0),(iv a4.2)])])),(12,(iv v11)),(13,(iv v12))],[(.live true true v10c),(.live false false [(.s 2 0 a4.1.1.length 10),(iv a4.1.2.1),(.s 0 0 v10n 1),(.s 3 0 a4.1.2.2.2.length 8)]),(.live false true (flat dC a4.1.1)),(.live false true (flat cB a4.1.2.2.2))]⟩
def cS (a0:List Int)(a0_o:Nat)(a0_n:Nat)(a1:Int)(a2:Int)(a3:Int)(a4:eP×Int):List Int×Int×Int->(List Int×Int×Int)⊕((List Int×Int×Int)⊕(Int×Bool×List Int))
 | (v10,v11,v12) =>
  (bif (decide ((v11:Int)<=v12)) then
   (bif (decide (((pL ((a4.1.1,a4.1.2.1,(v10,a4.1.2.2.2)),a4.2) (v10.getD (a0_o+tN v11) dF) (v10.getD (a0_o+tN a1) dF)):Int) < 0)) then
    (.inl (v10,(v11+1),v12))
   else
    (.inr (aH (bR a0 a0_o a0_n a1 a2 a3 a4) (tN (v12+2 - v11)+1) (v10,v11,v12))))
  else
   (.inr (aH (bR a0 a0_o a0_n a1 a2 a3 a4) (tN (v12+2 - v11)+1) (v10,v11,v12))))
noncomputable def hU:Code:=(aM [1,1,1,1,1,1,1,1,1,0] [] (aL Tryz.f116) []).1
noncomputable def hX:List K:=(aM [1,1,1,1,1,1,1,1,1,0] [] (aL Tryz.f116) []).2
def gO (a0:List Int)(a0_o:Nat)(a0_n:Nat)(a1:Int)(a2:Int)(a3:Int)(a4:eP×Int)(v7c:List SV)(v7n:Nat)(v8 v9:Int):LS:=⟨gD 178 [(0,(.s 0 (0+a0_o*1) a0_n 1)),(1,(iv a1)),(4,(.f 1000075 [(.a [(.p 1 0),(iv a4.2)])])),(12,(iv v8)),(13,(iv v9))],[(.live true true v7c),(.live false false [(.s 2 0 a4.1.1.length 10),(iv a4.1.2.1),(.s 0 0 v7n 1),(.s 3 0 a4.1.2.2.2.length 8)]),(.live false true (flat dC a4.1.1)),(.live false true (flat cB a4.1.2.2.2))]⟩
def bS (a0:List Int)(a0_o:Nat)(a0_n:Nat)(a1:Int)(a2:Int)(a3:Int)(a4:eP×Int):List Int×Int×Int->(List Int×Int×Int)⊕(Int×Bool×List Int)
 | (v7,v8,v9) =>
  (aH (cS a0 a0_o a0_n a1 a2 a3 a4) (tN (v9+2 - v8)+1) (v7,v8,v9))
noncomputable def mL:Code:=(aM [1,1,1,1,0] [] (aL Tryz.f116) []).1
noncomputable def mM:List K:=(aM [1,1,1,1,0] [] (aL Tryz.f116) []).2
def lK (a0:List Int)(a0_o:Nat)(a0_n:Nat)(a1:Int)(a2:Int)(a3:Int)(a4:eP×Int)(v4c:List SV)(v4n:Nat)(v5 v6:Int):LS:=⟨gD 178 [(0,(.s 0 (0+a0_o*1) a0_n 1)),(1,(iv a1)),(4,(.f 1000075 [(.a [(.p 1 0),(iv a4.2)])])),(12,(iv v5)),(13,(iv v6))],[(.live true true v4c),(.live false false [(.s 2 0 a4.1.1.length 10),(iv a4.1.2.1),(.s 0 0 v4n 1),(.s 3 0 a4.1.2.2.2.length 8)]),(.live false true (flat dC a4.1.1)),(.live false true (flat cB a4.1.2.2.2))]⟩
def bT (a0:List Int)(a0_o:Nat)(a0_n:Nat)(a1:Int)(a2:Int)(a3:Int)(a4:eP×Int):List Int×Int×Int->(List Int×Int×Int)⊕(Int×Bool×List Int)
 | (v4,v5,v6) =>
  (bif (decide ((v5:Int)<=v6)) then
   (bif (!(decide (((pL ((a4.1.1,a4.1.2.1,(v4,a4.1.2.2.2)),a4.2) (v4.getD (a0_o+tN v6) dF) (v4.getD (a0_o+tN a1) dF)):Int) < 0))) then
    (.inl (v4,v5,(W (v6 - 1))))
   else
    (bif (decide ((v5:Int) > v6)) then
     (.inr (v6,true,((v4.set (a0_o+tN v6) (v4.getD (a0_o+tN a1) dF)).set (a0_o+tN a1) (v4.getD (a0_o+tN v6) dF))))
    else
     (.inr (aH (bS a0 a0_o a0_n a1 a2 a3 a4) (tN ((W (v6 - 1))+2 - (W (v5+1)))+1) (((v4.set (a0_o+tN v5) (v4.getD (a0_o+tN v6) dF)).set (a0_o+tN v6) (v4.getD (a0_o+tN v5) dF)),(W (v5+1)),(W (v6 - 1)))))))
  else
   (bif (decide ((v5:Int) > v6)) then
    (.inr (v6,true,((v4.set (a0_o+tN v6) (v4.getD (a0_o+tN a1) dF)).set (a0_o+tN a1) (v4.getD (a0_o+tN v6) dF))))
   else
    (.inr (aH (bS a0 a0_o a0_n a1 a2 a3 a4) (tN ((W (v6 - 1))+2 - (W (v5+1)))+1) (((v4.set (a0_o+tN v5) (v4.getD (a0_o+tN v6) dF)).set (a0_o+tN v6) (v4.getD (a0_o+tN v5) dF)),(W (v5+1)),(W (v6 - 1)))))))
noncomputable def qM:Code:=(aM [1,1,1,0] [] (aL Tryz.f116) []).1
noncomputable def qN:List K:=(aM [1,1,1,0] [] (aL Tryz.f116) []).2
def oO (a0:List Int)(a0_o:Nat)(a0_n:Nat)(a1:Int)(a2:Int)(a3:Int)(a4:eP×Int)(v1c:List SV)(v1n:Nat)(v2 v3:Int):LS:=⟨gD 178 [(0,(.s 0 (0+a0_o*1) a0_n 1)),(1,(iv a1)),(4,(.f 1000075 [(.a [(.p 1 0),(iv a4.2)])])),(12,(iv v2)),(13,(iv v3))],[(.live true true v1c),(.live false false [(.s 2 0 a4.1.1.length 10),(iv a4.1.2.1),(.s 0 0 v1n 1),(.s 3 0 a4.1.2.2.2.length 8)]),(.live false true (flat dC a4.1.1)),(.live false true (flat cB a4.1.2.2.2))]⟩
def dI (a0:List Int)(a0_o:Nat)(a0_n:Nat)(a1:Int)(a2:Int)(a3:Int)(a4:eP×Int):List Int×Int×Int->(List Int×Int×Int)⊕(Int×Bool×List Int)
 | (v1,v2,v3) =>
  (bif (decide ((v2:Int)<=v3)) then
   (bif (decide (((pL ((a4.1.1,a4.1.2.1,(v1,a4.1.2.2.2)),a4.2) (v1.getD (a0_o+tN v2) dF) (v1.getD (a0_o+tN a1) dF)):Int) < 0)) then
    (.inl (v1,(v2+1),v3))
   else
    (.inr (aH (bT a0 a0_o a0_n a1 a2 a3 a4) (tN (v3+2 - v2)+1) (v1,v2,v3))))
  else
   (.inr (aH (bT a0 a0_o a0_n a1 a2 a3 a4) (tN (v3+2 - v2)+1) (v1,v2,v3))))
theorem vR (a0:List Int)(a0_o:Nat)(a0_n:Nat)(a1:Int)(a2:Int)(a3:Int)(a4:eP×Int)(l0:a0.length<=2^63-1)(l4_1_1:a4.1.1.length<=2^63-1)(l4_1_2_2_1:a4.1.2.2.1.length<=2^63-1)(l4_1_2_2_2:a4.1.2.2.2.length<=2^63-1)(hw:a0_o+a0_n<=a0.length/\a0.length<=1048576)(hr:InR a4.1.1.length a0)(hab:0<=a1/\a1<=a3/\a3 < a2/\a2<=↑a0_n) {cx:Cx} (hcx:cx.base=4)
 (n0:Nat) (g0:∀(v7:List Int) (v8 v9:Int),(v7.length=a0.length)/\(InR a4.1.1.length v7)/\(a1 < v8)/\(v8<=v9+2)/\(v9 < a2)/\(a1<=v9)->tN (v9+2 - v8) < n0->Aw.Good Tryz.prog none 9 (bodyPost Tryz.prog Tryz.f116 (RR cx (.t [(iv (aH (bS a0 a0_o a0_n a1 a2 a3 a4) n0 (v7,v8,v9)).1),(.v (.bool (aH (bS a0 a0_o a0_n a1 a2 a3 a4) n0 (v7,v8,v9)).2.1))]) [] [(.live true true (flat c3 (aH (bS a0 a0_o a0_n a1 a2 a3 a4) n0 (v7,v8,v9)).2.2)),.un,.un,.un])) cx [] (.l hU n0::hX) (gO a0 a0_o a0_n a1 a2 a3 a4 (flat c3 v7) v7.length v8 v9)):∀(n:Nat) (v13:List Int) (v14 v15:Int),(v13.length=a0.length)/\(InR a4.1.1.length v13)/\(a1 < v14)/\(v14<=v15+2)/\(v15 < a2)/\(a1<=v15)/\((v13.length=a0.length))/\((InR a4.1.1.length v13))/\((a1 < v14))/\((v14<=v15+2))/\((v15 < a2))/\((a1<=v15))/\(tN (v15+2 - v14) < n0+1)->tN (v15+2 - v14) < n->Aw.Good Tryz.prog none 9 (bodyPost Tryz.prog Tryz.f116 (RR cx (.t [(iv (bA (bS a0 a0_o a0_n a1 a2 a3 a4) n0 (aH (bR a0 a0_o a0_n a1 a2 a3 a4) n (v13,v14,v15))).1),(.v (.bool (bA (bS a0 a0_o a0_n a1 a2 a3 a4) n0 (aH (bR a0 a0_o a0_n a1 a2 a3 a4) n (v13,v14,v15))).2.1))]) [] [(.live true true (flat c3 (bA (bS a0 a0_o a0_n a1 a2 a3 a4) n0 (aH (bR a0 a0_o a0_n a1 a2 a3 a4) n (v13,v14,v15))).2.2)),.un,.un,.un])) cx [] (.l mJ n::mK n0) (lJ a0 a0_o a0_n a1 a2 a3 a4 (flat c3 v13) v13.length v14 v15):=by
 intro n
 induction n with
 | zero=>intro v13 v14 v15 hi hn;exact absurd hn (eI _)
 | succ n ih =>
  intro v13 v14 v15 hi hn
  refine aR ?_
  have hw_0:W (v14+1)=v14+1:=(aS (n:=v14+1) (by omega) (by omega)).trans (by omega)
  have hw_1:W (v15 - 1)=v15 - 1:=(aS (n:=v15 - 1) (by omega) (by omega)).trans (by omega)
  cases h0:(decide ((v14:Int)<=v15)) with
  | true =>
   have q0:=cJ h0
   let t1:List (St Tryz.prog):=[.d h0,.i v15 a0_n,cQ aF v13 a0_o v15 0 1,.i a1 a0_n,cQ aF v13 a0_o a1 0 1,.c [1,2,0,3] (C75 ((a4.1.1,a4.1.2.1,(v13,a4.1.2.2.2)),a4.2) (v13.getD (a0_o+tN v15) dF) (v13.getD (a0_o+tN a1) dF) (by omega) (by(try simp only [Lt]);omega) (by omega) (hi.2.1.at (by omega)) (hi.2.1.at (by omega)))]
   cases h1:(!(decide (((pL ((a4.1.1,a4.1.2.1,(v13,a4.1.2.2.2)),a4.2) (v13.getD (a0_o+tN v15) dF) (v13.getD (a0_o+tN a1) dF)):Int) < 0))) with
   | true =>
    have e:=Eq.refl (bR a0 a0_o a0_n a1 a2 a3 a4 (v13,v14,v15));conv at e=>rhs;simp only [bR,h0,h1,aT]
    rw [aI e]
    refine ba (t1++[.d h1]) [] [0,1,4,12,13] [] hcx (m:=n) mJ (mK n0) (lJ a0 a0_o a0_n a1 a2 a3 a4 (flat c3 v13) (v13.length) v14 (W (v15 - 1))) (by kernel_rfl) ?_
    exact ih v13 v14 (W (v15 - 1)) (by refine⟨?_,?_,?_,?_,?_,?_,?_,?_,?_,?_,?_,?_,?_⟩<;>first | omega | assumption | exact hi.2.1 | exact hi.2.2.1 | (simp only [Lt];omega) | exact InR.swap hi.2.1 (by omega) (by omega) | exact InR.swap hr (by omega) (by omega)) (by omega)
   | false =>
    let t2:List (St Tryz.prog):=(t1++[.d h1])
    cases h2:(decide ((v14:Int) > v15)) with
    | true =>
     have q2:=cJ h2
     have e:=Eq.refl (bR a0 a0_o a0_n a1 a2 a3 a4 (v13,v14,v15));conv at e=>rhs;simp only [bR,h0,h1,h2,aT]
     rw [aJ,e]
     try dsimp only [bA]
     try dsimp only
     rw [show flat c3 ((v13.set (a0_o+tN v15) (v13.getD (a0_o+tN a1) dF)).set (a0_o+tN a1) (v13.getD (a0_o+tN v15) dF))=(splice (splice (flat c3 v13) (0+a0_o*1+tN v15*1) [(iv (v13.getD (a0_o+tN a1) dF))]) (0+a0_o*1+tN a1*1) [(iv (v13.getD (a0_o+tN v15) dF))]) from Eq.symm (by rw [show(splice (flat c3 v13) (0+a0_o*1+tN v15*1) [(iv (v13.getD (a0_o+tN a1) dF))])=flat c3 (v13.set (a0_o+tN v15) (v13.getD (a0_o+tN a1) dF)) from(aP aF (by first | omega | (simp only [Lt];omega)) (o:=0) (d:=dF) (Nb rfl) rfl)];exact aP aF (by first | omega | (simp only [Lt];omega)) (o:=0) (d:=dF) (Nb rfl) rfl)]
     try rw [show List.length (α:=Int) ((v13.set (a0_o+tN v15) (v13.getD (a0_o+tN a1) dF)).set (a0_o+tN a1) (v13.getD (a0_o+tN v15) dF))=v13.length from by first | simp;done | omega]
     exact wW (t2++[.d h2,.i a1 a0_n,cQ aF v13 a0_o a1 0 1,.i v15 a0_n,cQ aF v13 a0_o v15 0 1,.i v15 a0_n,.p (show((0+a0_o*1+tN v15*1)+1<=(flat c3 v13).length) from(aX aF (by first | omega | (simp only [Lt];omega)) (o:=0) (Nb rfl))),.i a1 a0_n,.p (show((0+a0_o*1+tN a1*1)+1<=(splice (flat c3 v13) (0+a0_o*1+tN v15*1) [(iv (v13.getD (a0_o+tN a1) dF))]).length) from(by rw [show(splice (flat c3 v13) (0+a0_o*1+tN v15*1) [(iv (v13.getD (a0_o+tN a1) dF))])=flat c3 (v13.set (a0_o+tN v15) (v13.getD (a0_o+tN a1) dF)) from(aP aF (by first | omega | (simp only [Lt];omega)) (o:=0) (d:=dF) (Nb rfl) rfl)];exact aX aF (by first | omega | (simp only [Lt];omega)) (o:=0) (Nb rfl)))]) [] [0] [] hcx (by kernel_rfl)
    | false =>
     have q2:=cN h2
     have e:=Eq.refl (bR a0 a0_o a0_n a1 a2 a3 a4 (v13,v14,v15));conv at e=>rhs;simp only [bR,h0,h1,h2,aT]
     rw [aJ,e]
     refine ba (t2++[.d h2,.i v15 a0_n,cQ aF v13 a0_o v15 0 1,.i v14 a0_n,cQ aF v13 a0_o v14 0 1,.i v14 a0_n,.p (show((0+a0_o*1+tN v14*1)+1<=(flat c3 v13).length) from(aX aF (by first | omega | (simp only [Lt];omega)) (o:=0) (Nb rfl))),.i v15 a0_n,.p (show((0+a0_o*1+tN v15*1)+1<=(splice (flat c3 v13) (0+a0_o*1+tN v14*1) [(iv (v13.getD (a0_o+tN v15) dF))]).length) from(by rw [show(splice (flat c3 v13) (0+a0_o*1+tN v14*1) [(iv (v13.getD (a0_o+tN v15) dF))])=flat c3 (v13.set (a0_o+tN v14) (v13.getD (a0_o+tN v15) dF)) from(aP aF (by first | omega | (simp only [Lt];omega)) (o:=0) (d:=dF) (Nb rfl) rfl)];exact aX aF (by first | omega | (simp only [Lt];omega)) (o:=0) (Nb rfl)))]) [] [0,1,4,12,13] [] hcx (m:=n0) hU (hX) (gO a0 a0_o a0_n a1 a2 a3 a4 (splice (splice (flat c3 v13) (0+a0_o*1+tN v14*1) [(iv (v13.getD (a0_o+tN v15) dF))]) (0+a0_o*1+tN v15*1) [(iv (v13.getD (a0_o+tN v14) dF))]) (v13.length) (W (v14+1)) (W (v15 - 1))) (by kernel_rfl) ?_
     have z0:(splice (splice (flat c3 v13) (0+a0_o*1+tN v14*1) [(iv (v13.getD (a0_o+tN v15) dF))]) (0+a0_o*1+tN v15*1) [(iv (v13.getD (a0_o+tN v14) dF))])=flat c3 ((v13.set (a0_o+tN v14) (v13.getD (a0_o+tN v15) dF)).set (a0_o+tN v15) (v13.getD (a0_o+tN v14) dF)):=(by rw [show(splice (flat c3 v13) (0+a0_o*1+tN v14*1) [(iv (v13.getD (a0_o+tN v15) dF))])=flat c3 (v13.set (a0_o+tN v14) (v13.getD (a0_o+tN v15) dF)) from(aP aF (by first | omega | (simp only [Lt];omega)) (o:=0) (d:=dF) (Nb rfl) rfl)];exact aP aF (by first | omega | (simp only [Lt];omega)) (o:=0) (d:=dF) (Nb rfl) rfl)
     have z1:v13.length=((v13.set (a0_o+tN v14) (v13.getD (a0_o+tN v15) dF)).set (a0_o+tN v15) (v13.getD (a0_o+tN v14) dF)).length:=by simp
     rw [z0,z1]
     exact g0 ((v13.set (a0_o+tN v14) (v13.getD (a0_o+tN v15) dF)).set (a0_o+tN v15) (v13.getD (a0_o+tN v14) dF)) (W (v14+1)) (W (v15 - 1)) (by refine⟨?_,?_,?_,?_,?_,?_⟩<;>first | omega | assumption | exact hi.2.1 | exact hi.2.2.1 | (simp only [Lt];omega) | exact InR.swap hi.2.1 (by omega) (by omega) | exact InR.swap hr (by omega) (by omega)) (by omega)
  | false =>
   have q0:=cN h0
   let t1:List (St Tryz.prog):=[.d h0]
   cases h1:(decide ((v14:Int) > v15)) with
   | true =>
    have q1:=cJ h1
    have e:=Eq.refl (bR a0 a0_o a0_n a1 a2 a3 a4 (v13,v14,v15));conv at e=>rhs;simp only [bR,h0,h1,aT]
    rw [aJ,e]
    try dsimp only [bA]
    try dsimp only
    rw [show flat c3 ((v13.set (a0_o+tN v15) (v13.getD (a0_o+tN a1) dF)).set (a0_o+tN a1) (v13.getD (a0_o+tN v15) dF))=(splice (splice (flat c3 v13) (0+a0_o*1+tN v15*1) [(iv (v13.getD (a0_o+tN a1) dF))]) (0+a0_o*1+tN a1*1) [(iv (v13.getD (a0_o+tN v15) dF))]) from Eq.symm (by rw [show(splice (flat c3 v13) (0+a0_o*1+tN v15*1) [(iv (v13.getD (a0_o+tN a1) dF))])=flat c3 (v13.set (a0_o+tN v15) (v13.getD (a0_o+tN a1) dF)) from(aP aF (by first | omega | (simp only [Lt];omega)) (o:=0) (d:=dF) (Nb rfl) rfl)];exact aP aF (by first | omega | (simp only [Lt];omega)) (o:=0) (d:=dF) (Nb rfl) rfl)]
    try rw [show List.length (α:=Int) ((v13.set (a0_o+tN v15) (v13.getD (a0_o+tN a1) dF)).set (a0_o+tN a1) (v13.getD (a0_o+tN v15) dF))=v13.length from by first | simp;done | omega]
    exact wW (t1++[.d h1,.i a1 a0_n,cQ aF v13 a0_o a1 0 1,.i v15 a0_n,cQ aF v13 a0_o v15 0 1,.i v15 a0_n,.p (show((0+a0_o*1+tN v15*1)+1<=(flat c3 v13).length) from(aX aF (by first | omega | (simp only [Lt];omega)) (o:=0) (Nb rfl))),.i a1 a0_n,.p (show((0+a0_o*1+tN a1*1)+1<=(splice (flat c3 v13) (0+a0_o*1+tN v15*1) [(iv (v13.getD (a0_o+tN a1) dF))]).length) from(by rw [show(splice (flat c3 v13) (0+a0_o*1+tN v15*1) [(iv (v13.getD (a0_o+tN a1) dF))])=flat c3 (v13.set (a0_o+tN v15) (v13.getD (a0_o+tN a1) dF)) from(aP aF (by first | omega | (simp only [Lt];omega)) (o:=0) (d:=dF) (Nb rfl) rfl)];exact aX aF (by first | omega | (simp only [Lt];omega)) (o:=0) (Nb rfl)))]) [] [0] [] hcx (by kernel_rfl)
   | false =>
    have q1:=cN h1
    have e:=Eq.refl (bR a0 a0_o a0_n a1 a2 a3 a4 (v13,v14,v15));conv at e=>rhs;simp only [bR,h0,h1,aT]
    rw [aJ,e]
    refine ba (t1++[.d h1,.i v15 a0_n,cQ aF v13 a0_o v15 0 1,.i v14 a0_n,cQ aF v13 a0_o v14 0 1,.i v14 a0_n,.p (show((0+a0_o*1+tN v14*1)+1<=(flat c3 v13).length) from(aX aF (by first | omega | (simp only [Lt];omega)) (o:=0) (Nb rfl))),.i v15 a0_n,.p (show((0+a0_o*1+tN v15*1)+1<=(splice (flat c3 v13) (0+a0_o*1+tN v14*1) [(iv (v13.getD (a0_o+tN v15) dF))]).length) from(by rw [show(splice (flat c3 v13) (0+a0_o*1+tN v14*1) [(iv (v13.getD (a0_o+tN v15) dF))])=flat c3 (v13.set (a0_o+tN v14) (v13.getD (a0_o+tN v15) dF)) from(aP aF (by first | omega | (simp only [Lt];omega)) (o:=0) (d:=dF) (Nb rfl) rfl)];exact aX aF (by first | omega | (simp only [Lt];omega)) (o:=0) (Nb rfl)))]) [] [0,1,4,12,13] [] hcx (m:=n0) hU (hX) (gO a0 a0_o a0_n a1 a2 a3 a4 (splice (splice (flat c3 v13) (0+a0_o*1+tN v14*1) [(iv (v13.getD (a0_o+tN v15) dF))]) (0+a0_o*1+tN v15*1) [(iv (v13.getD (a0_o+tN v14) dF))]) (v13.length) (W (v14+1)) (W (v15 - 1))) (by kernel_rfl) ?_
    have z0:(splice (splice (flat c3 v13) (0+a0_o*1+tN v14*1) [(iv (v13.getD (a0_o+tN v15) dF))]) (0+a0_o*1+tN v15*1) [(iv (v13.getD (a0_o+tN v14) dF))])=flat c3 ((v13.set (a0_o+tN v14) (v13.getD (a0_o+tN v15) dF)).set (a0_o+tN v15) (v13.getD (a0_o+tN v14) dF)):=(by rw [show(splice (flat c3 v13) (0+a0_o*1+tN v14*1) [(iv (v13.getD (a0_o+tN v15) dF))])=flat c3 (v13.set (a0_o+tN v14) (v13.getD (a0_o+tN v15) dF)) from(aP aF (by first | omega | (simp only [Lt];omega)) (o:=0) (d:=dF) (Nb rfl) rfl)];exact aP aF (by first | omega | (simp only [Lt];omega)) (o:=0) (d:=dF) (Nb rfl) rfl)
    have z1:v13.length=((v13.set (a0_o+tN v14) (v13.getD (a0_o+tN v15) dF)).set (a0_o+tN v15) (v13.getD (a0_o+tN v14) dF)).length:=by simp
    rw [z0,z1]
    exact g0 ((v13.set (a0_o+tN v14) (v13.getD (a0_o+tN v15) dF)).set (a0_o+tN v15) (v13.getD (a0_o+tN v14) dF)) (W (v14+1)) (W (v15 - 1)) (by refine⟨?_,?_,?_,?_,?_,?_⟩<;>first | omega | assumption | exact hi.2.1 | exact hi.2.2.1 | (simp only [Lt];omega) | exact InR.swap hi.2.1 (by omega) (by omega) | exact InR.swap hr (by omega) (by omega)) (by omega)
theorem aEr (a0:List Int)(a0_o:Nat)(a0_n:Nat)(a1:Int)(a2:Int)(a3:Int)(a4:eP×Int)(l0:a0.length<=2^63-1)(l4_1_1:a4.1.1.length<=2^63-1)(l4_1_2_2_1:a4.1.2.2.1.length<=2^63-1)(l4_1_2_2_2:a4.1.2.2.2.length<=2^63-1)(hw:a0_o+a0_n<=a0.length/\a0.length<=1048576)(hr:InR a4.1.1.length a0)(hab:0<=a1/\a1<=a3/\a3 < a2/\a2<=↑a0_n) {cx:Cx} (hcx:cx.base=4)
 (n0:Nat) (g0:∀(v7:List Int) (v8 v9:Int),(v7.length=a0.length)/\(InR a4.1.1.length v7)/\(a1 < v8)/\(v8<=v9+2)/\(v9 < a2)/\(a1<=v9)->tN (v9+2 - v8) < n0->Aw.Good Tryz.prog none 9 (bodyPost Tryz.prog Tryz.f116 (RR cx (.t [(iv (aH (bS a0 a0_o a0_n a1 a2 a3 a4) n0 (v7,v8,v9)).1),(.v (.bool (aH (bS a0 a0_o a0_n a1 a2 a3 a4) n0 (v7,v8,v9)).2.1))]) [] [(.live true true (flat c3 (aH (bS a0 a0_o a0_n a1 a2 a3 a4) n0 (v7,v8,v9)).2.2)),.un,.un,.un])) cx [] (.l hU n0::hX) (gO a0 a0_o a0_n a1 a2 a3 a4 (flat c3 v7) v7.length v8 v9)):∀(n:Nat) (v10:List Int) (v11 v12:Int),(v10.length=a0.length)/\(InR a4.1.1.length v10)/\(a1 < v11)/\(v11<=v12+2)/\(v12 < a2)/\(a1<=v12)/\((v10.length=a0.length))/\((InR a4.1.1.length v10))/\((a1 < v11))/\((v11<=v12+2))/\((v12 < a2))/\((a1<=v12))/\(tN (v12+2 - v11) < n0+1)->tN (v12+2 - v11) < n->Aw.Good Tryz.prog none 9 (bodyPost Tryz.prog Tryz.f116 (RR cx (.t [(iv (bA (bS a0 a0_o a0_n a1 a2 a3 a4) n0 (aH (cS a0 a0_o a0_n a1 a2 a3 a4) n (v10,v11,v12))).1),(.v (.bool (bA (bS a0 a0_o a0_n a1 a2 a3 a4) n0 (aH (cS a0 a0_o a0_n a1 a2 a3 a4) n (v10,v11,v12))).2.1))]) [] [(.live true true (flat c3 (bA (bS a0 a0_o a0_n a1 a2 a3 a4) n0 (aH (cS a0 a0_o a0_n a1 a2 a3 a4) n (v10,v11,v12))).2.2)),.un,.un,.un])) cx [] (.l qK n::qL n0) (oN a0 a0_o a0_n a1 a2 a3 a4 (flat c3 v10) v10.length v11 v12):=by
 intro n
 induction n with
 | zero=>intro v10 v11 v12 hi hn;exact absurd hn (eI _)
 | succ n ih =>
  intro v10 v11 v12 hi hn
  refine aR ?_
  have hw_0:W (v11+1)=v11+1:=(aS (n:=v11+1) (by omega) (by omega)).trans (by omega)
  have hw_1:W (v12 - 1)=v12 - 1:=(aS (n:=v12 - 1) (by omega) (by omega)).trans (by omega)
  cases h0:(decide ((v11:Int)<=v12)) with
  | true =>
   have q0:=cJ h0
   let t1:List (St Tryz.prog):=[.d h0,.i v11 a0_n,cQ aF v10 a0_o v11 0 1,.i a1 a0_n,cQ aF v10 a0_o a1 0 1,.c [1,2,0,3] (C75 ((a4.1.1,a4.1.2.1,(v10,a4.1.2.2.2)),a4.2) (v10.getD (a0_o+tN v11) dF) (v10.getD (a0_o+tN a1) dF) (by omega) (by(try simp only [Lt]);omega) (by omega) (hi.2.1.at (by omega)) (hi.2.1.at (by omega)))]
   cases h1:(decide (((pL ((a4.1.1,a4.1.2.1,(v10,a4.1.2.2.2)),a4.2) (v10.getD (a0_o+tN v11) dF) (v10.getD (a0_o+tN a1) dF)):Int) < 0)) with
   | true =>
    have q1:=cJ h1
    have e:=Eq.refl (cS a0 a0_o a0_n a1 a2 a3 a4 (v10,v11,v12));conv at e=>rhs;simp only [cS,h0,h1,aT]
    rw [aI e]
    refine ba (t1++[.d h1]) [] [0,1,4,12,13] [] hcx (m:=n) qK (qL n0) (oN a0 a0_o a0_n a1 a2 a3 a4 (flat c3 v10) (v10.length) (W (v11+1)) v12) (by kernel_rfl) ?_
    have z0:(W (v11+1))=(v11+1):=aS (by omega) (by omega)
    rw [z0]
    exact ih v10 (v11+1) v12 (by refine⟨?_,?_,?_,?_,?_,?_,?_,?_,?_,?_,?_,?_,?_⟩<;>first | omega | assumption | exact hi.2.1 | exact hi.2.2.1 | (simp only [Lt];omega) | exact InR.swap hi.2.1 (by omega) (by omega) | exact InR.swap hr (by omega) (by omega)) (by omega)
   | false =>
    have q1:=cN h1
    have e:=Eq.refl (cS a0 a0_o a0_n a1 a2 a3 a4 (v10,v11,v12));conv at e=>rhs;simp only [cS,h0,h1,aT]
    rw [aJ,e]
    refine en (t1++[.d h1]) [] [0,1,4,12,13] [] hcx mJ (mK n0) (lJ a0 a0_o a0_n a1 a2 a3 a4 (flat c3 v10) (v10.length) v11 v12) (tN (v12+2 - v11)+1) (by kernel_rfl) ?_
    exact vR a0 a0_o a0_n a1 a2 a3 a4 l0 l4_1_1 l4_1_2_2_1 l4_1_2_2_2 hw hr hab hcx n0 g0 (tN (v12+2 - v11)+1) v10 v11 v12 (by refine⟨?_,?_,?_,?_,?_,?_,?_,?_,?_,?_,?_,?_,?_⟩<;>first | omega | assumption | exact hi.2.1 | exact hi.2.2.1 | (simp only [Lt];omega) | exact InR.swap hi.2.1 (by omega) (by omega) | exact InR.swap hr (by omega) (by omega)) (by omega)
  | false =>
   have q0:=cN h0
   have e:=Eq.refl (cS a0 a0_o a0_n a1 a2 a3 a4 (v10,v11,v12));conv at e=>rhs;simp only [cS,h0,aT]
   rw [aJ,e]
   refine en [.d h0] [] [0,1,4,12,13] [] hcx mJ (mK n0) (lJ a0 a0_o a0_n a1 a2 a3 a4 (flat c3 v10) (v10.length) v11 v12) (tN (v12+2 - v11)+1) (by kernel_rfl) ?_
   exact vR a0 a0_o a0_n a1 a2 a3 a4 l0 l4_1_1 l4_1_2_2_1 l4_1_2_2_2 hw hr hab hcx n0 g0 (tN (v12+2 - v11)+1) v10 v11 v12 (by refine⟨?_,?_,?_,?_,?_,?_,?_,?_,?_,?_,?_,?_,?_⟩<;>first | omega | assumption | exact hi.2.1 | exact hi.2.2.1 | (simp only [Lt];omega) | exact InR.swap hi.2.1 (by omega) (by omega) | exact InR.swap hr (by omega) (by omega)) (by omega)
theorem vS (a0:List Int)(a0_o:Nat)(a0_n:Nat)(a1:Int)(a2:Int)(a3:Int)(a4:eP×Int)(l0:a0.length<=2^63-1)(l4_1_1:a4.1.1.length<=2^63-1)(l4_1_2_2_1:a4.1.2.2.1.length<=2^63-1)(l4_1_2_2_2:a4.1.2.2.2.length<=2^63-1)(hw:a0_o+a0_n<=a0.length/\a0.length<=1048576)(hr:InR a4.1.1.length a0)(hab:0<=a1/\a1<=a3/\a3 < a2/\a2<=↑a0_n) {cx:Cx} (hcx:cx.base=4):∀(n:Nat) (v7:List Int) (v8 v9:Int),(v7.length=a0.length)/\(InR a4.1.1.length v7)/\(a1 < v8)/\(v8<=v9+2)/\(v9 < a2)/\(a1<=v9)->tN (v9+2 - v8) < n->Aw.Good Tryz.prog none 9 (bodyPost Tryz.prog Tryz.f116 (RR cx (.t [(iv (aH (bS a0 a0_o a0_n a1 a2 a3 a4) n (v7,v8,v9)).1),(.v (.bool (aH (bS a0 a0_o a0_n a1 a2 a3 a4) n (v7,v8,v9)).2.1))]) [] [(.live true true (flat c3 (aH (bS a0 a0_o a0_n a1 a2 a3 a4) n (v7,v8,v9)).2.2)),.un,.un,.un])) cx [] (.l hU n::hX) (gO a0 a0_o a0_n a1 a2 a3 a4 (flat c3 v7) v7.length v8 v9):=by
 intro n
 induction n with
 | zero=>intro v7 v8 v9 hi hn;exact absurd hn (eI _)
 | succ n ih =>
  intro v7 v8 v9 hi hn
  refine aR ?_
  have hw_0:W (v8+1)=v8+1:=(aS (n:=v8+1) (by omega) (by omega)).trans (by omega)
  have hw_1:W (v9 - 1)=v9 - 1:=(aS (n:=v9 - 1) (by omega) (by omega)).trans (by omega)
  have e:=Eq.refl (bS a0 a0_o a0_n a1 a2 a3 a4 (v7,v8,v9));conv at e=>rhs;simp only [bS]
  rw [aJ,e]
  refine en [] [] [0,1,4,12,13] [] hcx qK (qL n) (oN a0 a0_o a0_n a1 a2 a3 a4 (flat c3 v7) (v7.length) v8 v9) (tN (v9+2 - v8)+1) (by kernel_rfl) ?_
  exact aEr a0 a0_o a0_n a1 a2 a3 a4 l0 l4_1_1 l4_1_2_2_1 l4_1_2_2_2 hw hr hab hcx n ih (tN (v9+2 - v8)+1) v7 v8 v9 (by refine⟨?_,?_,?_,?_,?_,?_,?_,?_,?_,?_,?_,?_,?_⟩<;>first | omega | assumption | exact hi.2.1 | exact hi.2.2.1 | (simp only [Lt];omega) | exact InR.swap hi.2.1 (by omega) (by omega) | exact InR.swap hr (by omega) (by omega)) (by omega)
theorem vU (a0:List Int)(a0_o:Nat)(a0_n:Nat)(a1:Int)(a2:Int)(a3:Int)(a4:eP×Int)(l0:a0.length<=2^63-1)(l4_1_1:a4.1.1.length<=2^63-1)(l4_1_2_2_1:a4.1.2.2.1.length<=2^63-1)(l4_1_2_2_2:a4.1.2.2.2.length<=2^63-1)(hw:a0_o+a0_n<=a0.length/\a0.length<=1048576)(hr:InR a4.1.1.length a0)(hab:0<=a1/\a1<=a3/\a3 < a2/\a2<=↑a0_n) {cx:Cx} (hcx:cx.base=4):∀(n:Nat) (v4:List Int) (v5 v6:Int),(v4.length=a0.length)/\(InR a4.1.1.length v4)/\(a1 < v5)/\(v5<=v6+1)/\(v6 < a2)->tN (v6+2 - v5) < n->Aw.Good Tryz.prog none 9 (bodyPost Tryz.prog Tryz.f116 (RR cx (.t [(iv (aH (bT a0 a0_o a0_n a1 a2 a3 a4) n (v4,v5,v6)).1),(.v (.bool (aH (bT a0 a0_o a0_n a1 a2 a3 a4) n (v4,v5,v6)).2.1))]) [] [(.live true true (flat c3 (aH (bT a0 a0_o a0_n a1 a2 a3 a4) n (v4,v5,v6)).2.2)),.un,.un,.un])) cx [] (.l mL n::mM) (lK a0 a0_o a0_n a1 a2 a3 a4 (flat c3 v4) v4.length v5 v6):=by
 intro n
 induction n with
 | zero=>intro v4 v5 v6 hi hn;exact absurd hn (eI _)
 | succ n ih =>
  intro v4 v5 v6 hi hn
  refine aR ?_
  have hw_0:W (v5+1)=v5+1:=(aS (n:=v5+1) (by omega) (by omega)).trans (by omega)
  have hw_1:W (v6 - 1)=v6 - 1:=(aS (n:=v6 - 1) (by omega) (by omega)).trans (by omega)
  cases h0:(decide ((v5:Int)<=v6)) with
  | true =>
   have q0:=cJ h0
   let t1:List (St Tryz.prog):=[.d h0,.i v6 a0_n,cQ aF v4 a0_o v6 0 1,.i a1 a0_n,cQ aF v4 a0_o a1 0 1,.c [1,2,0,3] (C75 ((a4.1.1,a4.1.2.1,(v4,a4.1.2.2.2)),a4.2) (v4.getD (a0_o+tN v6) dF) (v4.getD (a0_o+tN a1) dF) (by omega) (by(try simp only [Lt]);omega) (by omega) (hi.2.1.at (by omega)) (hi.2.1.at (by omega)))]
   cases h1:(!(decide (((pL ((a4.1.1,a4.1.2.1,(v4,a4.1.2.2.2)),a4.2) (v4.getD (a0_o+tN v6) dF) (v4.getD (a0_o+tN a1) dF)):Int) < 0))) with
   | true =>
    have e:=Eq.refl (bT a0 a0_o a0_n a1 a2 a3 a4 (v4,v5,v6));conv at e=>rhs;simp only [bT,h0,h1,aT]
    rw [aI e]
    refine ba (t1++[.d h1]) [] [0,1,4,12,13] [] hcx (m:=n) mL (mM) (lK a0 a0_o a0_n a1 a2 a3 a4 (flat c3 v4) (v4.length) v5 (W (v6 - 1))) (by kernel_rfl) ?_
    exact ih v4 v5 (W (v6 - 1)) (by refine⟨?_,?_,?_,?_,?_⟩<;>first | omega | assumption | exact hi.2.1 | exact hi.2.2.1 | (simp only [Lt];omega) | exact InR.swap hi.2.1 (by omega) (by omega) | exact InR.swap hr (by omega) (by omega)) (by omega)
   | false =>
    let t2:List (St Tryz.prog):=(t1++[.d h1])
    cases h2:(decide ((v5:Int) > v6)) with
    | true =>
     have q2:=cJ h2
     have e:=Eq.refl (bT a0 a0_o a0_n a1 a2 a3 a4 (v4,v5,v6));conv at e=>rhs;simp only [bT,h0,h1,h2,aT]
     rw [aJ,e]
     try dsimp only [bA]
     try dsimp only
     rw [show flat c3 ((v4.set (a0_o+tN v6) (v4.getD (a0_o+tN a1) dF)).set (a0_o+tN a1) (v4.getD (a0_o+tN v6) dF))=(splice (splice (flat c3 v4) (0+a0_o*1+tN v6*1) [(iv (v4.getD (a0_o+tN a1) dF))]) (0+a0_o*1+tN a1*1) [(iv (v4.getD (a0_o+tN v6) dF))]) from Eq.symm (by rw [show(splice (flat c3 v4) (0+a0_o*1+tN v6*1) [(iv (v4.getD (a0_o+tN a1) dF))])=flat c3 (v4.set (a0_o+tN v6) (v4.getD (a0_o+tN a1) dF)) from(aP aF (by first | omega | (simp only [Lt];omega)) (o:=0) (d:=dF) (Nb rfl) rfl)];exact aP aF (by first | omega | (simp only [Lt];omega)) (o:=0) (d:=dF) (Nb rfl) rfl)]
     try rw [show List.length (α:=Int) ((v4.set (a0_o+tN v6) (v4.getD (a0_o+tN a1) dF)).set (a0_o+tN a1) (v4.getD (a0_o+tN v6) dF))=v4.length from by first | simp;done | omega]
     exact wW (t2++[.d h2,.i a1 a0_n,cQ aF v4 a0_o a1 0 1,.i v6 a0_n,cQ aF v4 a0_o v6 0 1,.i v6 a0_n,.p (show((0+a0_o*1+tN v6*1)+1<=(flat c3 v4).length) from(aX aF (by first | omega | (simp only [Lt];omega)) (o:=0) (Nb rfl))),.i a1 a0_n,.p (show((0+a0_o*1+tN a1*1)+1<=(splice (flat c3 v4) (0+a0_o*1+tN v6*1) [(iv (v4.getD (a0_o+tN a1) dF))]).length) from(by rw [show(splice (flat c3 v4) (0+a0_o*1+tN v6*1) [(iv (v4.getD (a0_o+tN a1) dF))])=flat c3 (v4.set (a0_o+tN v6) (v4.getD (a0_o+tN a1) dF)) from(aP aF (by first | omega | (simp only [Lt];omega)) (o:=0) (d:=dF) (Nb rfl) rfl)];exact aX aF (by first | omega | (simp only [Lt];omega)) (o:=0) (Nb rfl)))]) [] [0] [] hcx (by kernel_rfl)
    | false =>
     have q2:=cN h2
     have e:=Eq.refl (bT a0 a0_o a0_n a1 a2 a3 a4 (v4,v5,v6));conv at e=>rhs;simp only [bT,h0,h1,h2,aT]
     rw [aJ,e]
     refine en (t2++[.d h2,.i v6 a0_n,cQ aF v4 a0_o v6 0 1,.i v5 a0_n,cQ aF v4 a0_o v5 0 1,.i v5 a0_n,.p (show((0+a0_o*1+tN v5*1)+1<=(flat c3 v4).length) from(aX aF (by first | omega | (simp only [Lt];omega)) (o:=0) (Nb rfl))),.i v6 a0_n,.p (show((0+a0_o*1+tN v6*1)+1<=(splice (flat c3 v4) (0+a0_o*1+tN v5*1) [(iv (v4.getD (a0_o+tN v6) dF))]).length) from(by rw [show(splice (flat c3 v4) (0+a0_o*1+tN v5*1) [(iv (v4.getD (a0_o+tN v6) dF))])=flat c3 (v4.set (a0_o+tN v5) (v4.getD (a0_o+tN v6) dF)) from(aP aF (by first | omega | (simp only [Lt];omega)) (o:=0) (d:=dF) (Nb rfl) rfl)];exact aX aF (by first | omega | (simp only [Lt];omega)) (o:=0) (Nb rfl)))]) [] [0,1,4,12,13] [] hcx hU (hX) (gO a0 a0_o a0_n a1 a2 a3 a4 (splice (splice (flat c3 v4) (0+a0_o*1+tN v5*1) [(iv (v4.getD (a0_o+tN v6) dF))]) (0+a0_o*1+tN v6*1) [(iv (v4.getD (a0_o+tN v5) dF))]) (v4.length) (W (v5+1)) (W (v6 - 1))) (tN ((W (v6 - 1))+2 - (W (v5+1)))+1) (by kernel_rfl) ?_
     have z0:(splice (splice (flat c3 v4) (0+a0_o*1+tN v5*1) [(iv (v4.getD (a0_o+tN v6) dF))]) (0+a0_o*1+tN v6*1) [(iv (v4.getD (a0_o+tN v5) dF))])=flat c3 ((v4.set (a0_o+tN v5) (v4.getD (a0_o+tN v6) dF)).set (a0_o+tN v6) (v4.getD (a0_o+tN v5) dF)):=(by rw [show(splice (flat c3 v4) (0+a0_o*1+tN v5*1) [(iv (v4.getD (a0_o+tN v6) dF))])=flat c3 (v4.set (a0_o+tN v5) (v4.getD (a0_o+tN v6) dF)) from(aP aF (by first | omega | (simp only [Lt];omega)) (o:=0) (d:=dF) (Nb rfl) rfl)];exact aP aF (by first | omega | (simp only [Lt];omega)) (o:=0) (d:=dF) (Nb rfl) rfl)
     have z1:v4.length=((v4.set (a0_o+tN v5) (v4.getD (a0_o+tN v6) dF)).set (a0_o+tN v6) (v4.getD (a0_o+tN v5) dF)).length:=by simp
     rw [z0,z1]
     exact vS a0 a0_o a0_n a1 a2 a3 a4 l0 l4_1_1 l4_1_2_2_1 l4_1_2_2_2 hw hr hab hcx (tN ((W (v6 - 1))+2 - (W (v5+1)))+1) ((v4.set (a0_o+tN v5) (v4.getD (a0_o+tN v6) dF)).set (a0_o+tN v6) (v4.getD (a0_o+tN v5) dF)) (W (v5+1)) (W (v6 - 1)) (by refine⟨?_,?_,?_,?_,?_,?_⟩<;>first | omega | assumption | exact hi.2.1 | exact hi.2.2.1 | (simp only [Lt];omega) | exact InR.swap hi.2.1 (by omega) (by omega) | exact InR.swap hr (by omega) (by omega)) (by omega)
  | false =>
   have q0:=cN h0
   let t1:List (St Tryz.prog):=[.d h0]
   cases h1:(decide ((v5:Int) > v6)) with
   | true =>
    have q1:=cJ h1
    have e:=Eq.refl (bT a0 a0_o a0_n a1 a2 a3 a4 (v4,v5,v6));conv at e=>rhs;simp only [bT,h0,h1,aT]
    rw [aJ,e]
    try dsimp only [bA]
    try dsimp only
    rw [show flat c3 ((v4.set (a0_o+tN v6) (v4.getD (a0_o+tN a1) dF)).set (a0_o+tN a1) (v4.getD (a0_o+tN v6) dF))=(splice (splice (flat c3 v4) (0+a0_o*1+tN v6*1) [(iv (v4.getD (a0_o+tN a1) dF))]) (0+a0_o*1+tN a1*1) [(iv (v4.getD (a0_o+tN v6) dF))]) from Eq.symm (by rw [show(splice (flat c3 v4) (0+a0_o*1+tN v6*1) [(iv (v4.getD (a0_o+tN a1) dF))])=flat c3 (v4.set (a0_o+tN v6) (v4.getD (a0_o+tN a1) dF)) from(aP aF (by first | omega | (simp only [Lt];omega)) (o:=0) (d:=dF) (Nb rfl) rfl)];exact aP aF (by first | omega | (simp only [Lt];omega)) (o:=0) (d:=dF) (Nb rfl) rfl)]
    try rw [show List.length (α:=Int) ((v4.set (a0_o+tN v6) (v4.getD (a0_o+tN a1) dF)).set (a0_o+tN a1) (v4.getD (a0_o+tN v6) dF))=v4.length from by first | simp;done | omega]
    exact wW (t1++[.d h1,.i a1 a0_n,cQ aF v4 a0_o a1 0 1,.i v6 a0_n,cQ aF v4 a0_o v6 0 1,.i v6 a0_n,.p (show((0+a0_o*1+tN v6*1)+1<=(flat c3 v4).length) from(aX aF (by first | omega | (simp only [Lt];omega)) (o:=0) (Nb rfl))),.i a1 a0_n,.p (show((0+a0_o*1+tN a1*1)+1<=(splice (flat c3 v4) (0+a0_o*1+tN v6*1) [(iv (v4.getD (a0_o+tN a1) dF))]).length) from(by rw [show(splice (flat c3 v4) (0+a0_o*1+tN v6*1) [(iv (v4.getD (a0_o+tN a1) dF))])=flat c3 (v4.set (a0_o+tN v6) (v4.getD (a0_o+tN a1) dF)) from(aP aF (by first | omega | (simp only [Lt];omega)) (o:=0) (d:=dF) (Nb rfl) rfl)];exact aX aF (by first | omega | (simp only [Lt];omega)) (o:=0) (Nb rfl)))]) [] [0] [] hcx (by kernel_rfl)
   | false =>
    have q1:=cN h1
    have e:=Eq.refl (bT a0 a0_o a0_n a1 a2 a3 a4 (v4,v5,v6));conv at e=>rhs;simp only [bT,h0,h1,aT]
    rw [aJ,e]
    refine en (t1++[.d h1,.i v6 a0_n,cQ aF v4 a0_o v6 0 1,.i v5 a0_n,cQ aF v4 a0_o v5 0 1,.i v5 a0_n,.p (show((0+a0_o*1+tN v5*1)+1<=(flat c3 v4).length) from(aX aF (by first | omega | (simp only [Lt];omega)) (o:=0) (Nb rfl))),.i v6 a0_n,.p (show((0+a0_o*1+tN v6*1)+1<=(splice (flat c3 v4) (0+a0_o*1+tN v5*1) [(iv (v4.getD (a0_o+tN v6) dF))]).length) from(by rw [show(splice (flat c3 v4) (0+a0_o*1+tN v5*1) [(iv (v4.getD (a0_o+tN v6) dF))])=flat c3 (v4.set (a0_o+tN v5) (v4.getD (a0_o+tN v6) dF)) from(aP aF (by first | omega | (simp only [Lt];omega)) (o:=0) (d:=dF) (Nb rfl) rfl)];exact aX aF (by first | omega | (simp only [Lt];omega)) (o:=0) (Nb rfl)))]) [] [0,1,4,12,13] [] hcx hU (hX) (gO a0 a0_o a0_n a1 a2 a3 a4 (splice (splice (flat c3 v4) (0+a0_o*1+tN v5*1) [(iv (v4.getD (a0_o+tN v6) dF))]) (0+a0_o*1+tN v6*1) [(iv (v4.getD (a0_o+tN v5) dF))]) (v4.length) (W (v5+1)) (W (v6 - 1))) (tN ((W (v6 - 1))+2 - (W (v5+1)))+1) (by kernel_rfl) ?_
    have z0:(splice (splice (flat c3 v4) (0+a0_o*1+tN v5*1) [(iv (v4.getD (a0_o+tN v6) dF))]) (0+a0_o*1+tN v6*1) [(iv (v4.getD (a0_o+tN v5) dF))])=flat c3 ((v4.set (a0_o+tN v5) (v4.getD (a0_o+tN v6) dF)).set (a0_o+tN v6) (v4.getD (a0_o+tN v5) dF)):=(by rw [show(splice (flat c3 v4) (0+a0_o*1+tN v5*1) [(iv (v4.getD (a0_o+tN v6) dF))])=flat c3 (v4.set (a0_o+tN v5) (v4.getD (a0_o+tN v6) dF)) from(aP aF (by first | omega | (simp only [Lt];omega)) (o:=0) (d:=dF) (Nb rfl) rfl)];exact aP aF (by first | omega | (simp only [Lt];omega)) (o:=0) (d:=dF) (Nb rfl) rfl)
    have z1:v4.length=((v4.set (a0_o+tN v5) (v4.getD (a0_o+tN v6) dF)).set (a0_o+tN v6) (v4.getD (a0_o+tN v5) dF)).length:=by simp
    rw [z0,z1]
    exact vS a0 a0_o a0_n a1 a2 a3 a4 l0 l4_1_1 l4_1_2_2_1 l4_1_2_2_2 hw hr hab hcx (tN ((W (v6 - 1))+2 - (W (v5+1)))+1) ((v4.set (a0_o+tN v5) (v4.getD (a0_o+tN v6) dF)).set (a0_o+tN v6) (v4.getD (a0_o+tN v5) dF)) (W (v5+1)) (W (v6 - 1)) (by refine⟨?_,?_,?_,?_,?_,?_⟩<;>first | omega | assumption | exact hi.2.1 | exact hi.2.2.1 | (simp only [Lt];omega) | exact InR.swap hi.2.1 (by omega) (by omega) | exact InR.swap hr (by omega) (by omega)) (by omega)
theorem aEs (a0:List Int)(a0_o:Nat)(a0_n:Nat)(a1:Int)(a2:Int)(a3:Int)(a4:eP×Int)(l0:a0.length<=2^63-1)(l4_1_1:a4.1.1.length<=2^63-1)(l4_1_2_2_1:a4.1.2.2.1.length<=2^63-1)(l4_1_2_2_2:a4.1.2.2.2.length<=2^63-1)(hw:a0_o+a0_n<=a0.length/\a0.length<=1048576)(hr:InR a4.1.1.length a0)(hab:0<=a1/\a1<=a3/\a3 < a2/\a2<=↑a0_n) {cx:Cx} (hcx:cx.base=4):∀(n:Nat) (v1:List Int) (v2 v3:Int),(v1.length=a0.length)/\(InR a4.1.1.length v1)/\(a1 < v2)/\(v2<=v3+1)/\(v3 < a2)->tN (v3+2 - v2) < n->Aw.Good Tryz.prog none 9 (bodyPost Tryz.prog Tryz.f116 (RR cx (.t [(iv (aH (dI a0 a0_o a0_n a1 a2 a3 a4) n (v1,v2,v3)).1),(.v (.bool (aH (dI a0 a0_o a0_n a1 a2 a3 a4) n (v1,v2,v3)).2.1))]) [] [(.live true true (flat c3 (aH (dI a0 a0_o a0_n a1 a2 a3 a4) n (v1,v2,v3)).2.2)),.un,.un,.un])) cx [] (.l qM n::qN) (oO a0 a0_o a0_n a1 a2 a3 a4 (flat c3 v1) v1.length v2 v3):=by
 intro n
 induction n with
 | zero=>intro v1 v2 v3 hi hn;exact absurd hn (eI _)
 | succ n ih =>
  intro v1 v2 v3 hi hn
  refine aR ?_
  have hw_0:W (v2+1)=v2+1:=(aS (n:=v2+1) (by omega) (by omega)).trans (by omega)
  have hw_1:W (v3 - 1)=v3 - 1:=(aS (n:=v3 - 1) (by omega) (by omega)).trans (by omega)
  cases h0:(decide ((v2:Int)<=v3)) with
  | true =>
   have q0:=cJ h0
   let t1:List (St Tryz.prog):=[.d h0,.i v2 a0_n,cQ aF v1 a0_o v2 0 1,.i a1 a0_n,cQ aF v1 a0_o a1 0 1,.c [1,2,0,3] (C75 ((a4.1.1,a4.1.2.1,(v1,a4.1.2.2.2)),a4.2) (v1.getD (a0_o+tN v2) dF) (v1.getD (a0_o+tN a1) dF) (by omega) (by(try simp only [Lt]);omega) (by omega) (hi.2.1.at (by omega)) (hi.2.1.at (by omega)))]
   cases h1:(decide (((pL ((a4.1.1,a4.1.2.1,(v1,a4.1.2.2.2)),a4.2) (v1.getD (a0_o+tN v2) dF) (v1.getD (a0_o+tN a1) dF)):Int) < 0)) with
   | true =>
    have q1:=cJ h1
    have e:=Eq.refl (dI a0 a0_o a0_n a1 a2 a3 a4 (v1,v2,v3));conv at e=>rhs;simp only [dI,h0,h1,aT]
    rw [aI e]
    refine ba (t1++[.d h1]) [] [0,1,4,12,13] [] hcx (m:=n) qM (qN) (oO a0 a0_o a0_n a1 a2 a3 a4 (flat c3 v1) (v1.length) (W (v2+1)) v3) (by kernel_rfl) ?_
    have z0:(W (v2+1))=(v2+1):=aS (by omega) (by omega)
    rw [z0]
    exact ih v1 (v2+1) v3 (by refine⟨?_,?_,?_,?_,?_⟩<;>first | omega | assumption | exact hi.2.1 | exact hi.2.2.1 | (simp only [Lt];omega) | exact InR.swap hi.2.1 (by omega) (by omega) | exact InR.swap hr (by omega) (by omega)) (by omega)
   | false =>
    have q1:=cN h1
    have e:=Eq.refl (dI a0 a0_o a0_n a1 a2 a3 a4 (v1,v2,v3));conv at e=>rhs;simp only [dI,h0,h1,aT]
    rw [aJ,e]
    refine en (t1++[.d h1]) [] [0,1,4,12,13] [] hcx mL (mM) (lK a0 a0_o a0_n a1 a2 a3 a4 (flat c3 v1) (v1.length) v2 v3) (tN (v3+2 - v2)+1) (by kernel_rfl) ?_
    exact vU a0 a0_o a0_n a1 a2 a3 a4 l0 l4_1_1 l4_1_2_2_1 l4_1_2_2_2 hw hr hab hcx (tN (v3+2 - v2)+1) v1 v2 v3 (by refine⟨?_,?_,?_,?_,?_⟩<;>first | omega | assumption | exact hi.2.1 | exact hi.2.2.1 | (simp only [Lt];omega) | exact InR.swap hi.2.1 (by omega) (by omega) | exact InR.swap hr (by omega) (by omega)) (by omega)
  | false =>
   have q0:=cN h0
   have e:=Eq.refl (dI a0 a0_o a0_n a1 a2 a3 a4 (v1,v2,v3));conv at e=>rhs;simp only [dI,h0,aT]
   rw [aJ,e]
   refine en [.d h0] [] [0,1,4,12,13] [] hcx mL (mM) (lK a0 a0_o a0_n a1 a2 a3 a4 (flat c3 v1) (v1.length) v2 v3) (tN (v3+2 - v2)+1) (by kernel_rfl) ?_
   exact vU a0 a0_o a0_n a1 a2 a3 a4 l0 l4_1_1 l4_1_2_2_1 l4_1_2_2_2 hw hr hab hcx (tN (v3+2 - v2)+1) v1 v2 v3 (by refine⟨?_,?_,?_,?_,?_⟩<;>first | omega | assumption | exact hi.2.1 | exact hi.2.2.1 | (simp only [Lt];omega) | exact InR.swap hi.2.1 (by omega) (by omega) | exact InR.swap hr (by omega) (by omega)) (by omega)
def aN (a0:List Int)(a0_o:Nat)(a0_n:Nat)(a1:Int)(a2:Int)(a3:Int)(a4:eP×Int):Int×Bool×List Int :=
 (aH (dI a0 a0_o a0_n a1 a2 a3 a4) (tN ((W (a2 - 1))+2 - (W (a1+1)))+1) (((a0.set (a0_o+tN a1) (a0.getD (a0_o+tN a3) dF)).set (a0_o+tN a3) (a0.getD (a0_o+tN a1) dF)),(W (a1+1)),(W (a2 - 1))))
theorem aJa (a0:List Int)(a0_o:Nat)(a0_n:Nat)(a1:Int)(a2:Int)(a3:Int)(a4:eP×Int)(l0:a0.length<=2^63-1)(l4_1_1:a4.1.1.length<=2^63-1)(l4_1_2_2_1:a4.1.2.2.1.length<=2^63-1)(l4_1_2_2_2:a4.1.2.2.2.length<=2^63-1)(hw:a0_o+a0_n<=a0.length/\a0.length<=1048576)(hr:InR a4.1.1.length a0)(hab:0<=a1/\a1<=a3/\a3 < a2/\a2<=↑a0_n):Con Tryz.prog 116 [(.s 0 (0+a0_o*1) a0_n 1),(iv a1),(iv a2),(iv a3),(.f 1000075 [(.a [(.p 1 0),(iv a4.2)])])] [(.live true true (flat c3 a0)),(.live false false [(.s 2 0 a4.1.1.length 10),(iv a4.1.2.1),(.s 0 0 a0.length 1),(.s 3 0 a4.1.2.2.2.length 8)]),(.live false true (flat dC a4.1.1)),(.live false true (flat cB a4.1.2.2.2))] (.t [(iv (aN a0 a0_o a0_n a1 a2 a3 a4).1),(.v (.bool (aN a0 a0_o a0_n a1 a2 a3 a4).2.1))]) [] [(.live true true (flat c3 (aN a0 a0_o a0_n a1 a2 a3 a4).2.2)),.un,.un,.un]:=by
 refine aY Tryz.func116 (by kernel_rfl) fun cx hcx=>?_
 have hw_0:W (a1+1)=a1+1:=(aS (n:=a1+1) (by omega) (by omega)).trans (by omega)
 have hw_1:W (a2 - 1)=a2 - 1:=(aS (n:=a2 - 1) (by omega) (by omega)).trans (by omega)
 have e:=Eq.refl (aN a0 a0_o a0_n a1 a2 a3 a4);conv at e=>rhs;simp only [aN]
 rw [e]
 refine en [.i a3 a0_n,cQ aF a0 a0_o a3 0 1,.i a1 a0_n,cQ aF a0 a0_o a1 0 1,.i a1 a0_n,.p (show((0+a0_o*1+tN a1*1)+1<=(flat c3 a0).length) from(aX aF (by first | omega | (simp only [Lt];omega)) (o:=0) (Nb rfl))),.i a3 a0_n,.p (show((0+a0_o*1+tN a3*1)+1<=(splice (flat c3 a0) (0+a0_o*1+tN a1*1) [(iv (a0.getD (a0_o+tN a3) dF))]).length) from(by rw [show(splice (flat c3 a0) (0+a0_o*1+tN a1*1) [(iv (a0.getD (a0_o+tN a3) dF))])=flat c3 (a0.set (a0_o+tN a1) (a0.getD (a0_o+tN a3) dF)) from(aP aF (by first | omega | (simp only [Lt];omega)) (o:=0) (d:=dF) (Nb rfl) rfl)];exact aX aF (by first | omega | (simp only [Lt];omega)) (o:=0) (Nb rfl)))] [] [0,1,4,12,13] [] hcx qM (qN) (oO a0 a0_o a0_n a1 a2 a3 a4 (splice (splice (flat c3 a0) (0+a0_o*1+tN a1*1) [(iv (a0.getD (a0_o+tN a3) dF))]) (0+a0_o*1+tN a3*1) [(iv (a0.getD (a0_o+tN a1) dF))]) (a0.length) (W (a1+1)) (W (a2 - 1))) (tN ((W (a2 - 1))+2 - (W (a1+1)))+1) (by kernel_rfl) ?_
 have z0:(splice (splice (flat c3 a0) (0+a0_o*1+tN a1*1) [(iv (a0.getD (a0_o+tN a3) dF))]) (0+a0_o*1+tN a3*1) [(iv (a0.getD (a0_o+tN a1) dF))])=flat c3 ((a0.set (a0_o+tN a1) (a0.getD (a0_o+tN a3) dF)).set (a0_o+tN a3) (a0.getD (a0_o+tN a1) dF)):=(by rw [show(splice (flat c3 a0) (0+a0_o*1+tN a1*1) [(iv (a0.getD (a0_o+tN a3) dF))])=flat c3 (a0.set (a0_o+tN a1) (a0.getD (a0_o+tN a3) dF)) from(aP aF (by first | omega | (simp only [Lt];omega)) (o:=0) (d:=dF) (Nb rfl) rfl)];exact aP aF (by first | omega | (simp only [Lt];omega)) (o:=0) (d:=dF) (Nb rfl) rfl)
 have z1:a0.length=((a0.set (a0_o+tN a1) (a0.getD (a0_o+tN a3) dF)).set (a0_o+tN a3) (a0.getD (a0_o+tN a1) dF)).length:=by simp
 rw [z0,z1]
 exact aEs a0 a0_o a0_n a1 a2 a3 a4 l0 l4_1_1 l4_1_2_2_1 l4_1_2_2_2 hw hr hab hcx (tN ((W (a2 - 1))+2 - (W (a1+1)))+1) ((a0.set (a0_o+tN a1) (a0.getD (a0_o+tN a3) dF)).set (a0_o+tN a3) (a0.getD (a0_o+tN a1) dF)) (W (a1+1)) (W (a2 - 1)) (by refine⟨?_,?_,?_,?_,?_⟩<;>first | omega | assumption | exact hi.2.1 | exact hi.2.2.1 | (simp only [Lt];omega) | exact InR.swap hi.2.1 (by omega) (by omega) | exact InR.swap hr (by omega) (by omega)) (by omega)
noncomputable def mN:Code:=(aM [1,1,1,0,0,1,0] [0] (aL Tryz.f115) []).1
noncomputable def mO (m0:Nat):List K:=(aM [1,1,1,0,0,1,0] [m0] (aL Tryz.f115) []).2
def lL (a0:List Int)(a0_o:Nat)(a0_n:Nat)(a1:Int)(a2:Int)(a3:Int)(a4:eP×Int)(v7c:List SV)(v7n:Nat)(v8 v9:Int):LS:=⟨gD 90 [(0,(.s 0 (0+a0_o*1) a0_n 1)),(1,(iv a1)),(4,(.f 1000075 [(.a [(.p 1 0),(iv a4.2)])])),(11,(iv v8)),(12,(iv v9))],[(.live true true v7c),(.live false false [(.s 2 0 a4.1.1.length 10),(iv a4.1.2.1),(.s 0 0 v7n 1),(.s 3 0 a4.1.2.2.2.length 8)]),(.live false true (flat dC a4.1.1)),(.live false true (flat cB a4.1.2.2.2))]⟩
def bV (a0:List Int)(a0_o:Nat)(a0_n:Nat)(a1:Int)(a2:Int)(a3:Int)(a4:eP×Int):List Int×Int×Int->(List Int×Int×Int)⊕((List Int×Int×Int)⊕(Int×List Int))
 | (v7,v8,v9) =>
  (bif (decide ((v8:Int)<=v9)) then
   (bif (decide (((pL ((a4.1.1,a4.1.2.1,(v7,a4.1.2.2.2)),a4.2) (v7.getD (a0_o+tN a1) dF) (v7.getD (a0_o+tN v9) dF)):Int) < 0)) then
    (.inl (v7,v8,(W (v9 - 1))))
   else
    (bif (decide ((v8:Int) > v9)) then
     (.inr (.inr (v8,v7)))
    else
     (.inr (.inl (((v7.set (a0_o+tN v8) (v7.getD (a0_o+tN v9) dF)).set (a0_o+tN v9) (v7.getD (a0_o+tN v8) dF)),(W (v8+1)),(W (v9 - 1)))))))
  else
   (bif (decide ((v8:Int) > v9)) then
    (.inr (.inr (v8,v7)))
   else
    (.inr (.inl (((v7.set (a0_o+tN v8) (v7.getD (a0_o+tN v9) dF)).set (a0_o+tN v9) (v7.getD (a0_o+tN v8) dF)),(W (v8+1)),(W (v9 - 1)))))))
noncomputable def qO:Code:=(aM [1,1,1,0,0,0] [0] (aL Tryz.f115) []).1
noncomputable def qP (m0:Nat):List K:=(aM [1,1,1,0,0,0] [m0] (aL Tryz.f115) []).2
def oP (a0:List Int)(a0_o:Nat)(a0_n:Nat)(a1:Int)(a2:Int)(a3:Int)(a4:eP×Int)(v4c:List SV)(v4n:Nat)(v5 v6:Int):LS:=⟨gD 90 [(0,(.s 0 (0+a0_o*1) a0_n 1)),(1,(iv a1)),(4,(.f 1000075 [(.a [(.p 1 0),(iv a4.2)])])),(11,(iv v5)),(12,(iv v6))],[(.live true true v4c),(.live false false [(.s 2 0 a4.1.1.length 10),(iv a4.1.2.1),(.s 0 0 v4n 1),(.s 3 0 a4.1.2.2.2.length 8)]),(.live false true (flat dC a4.1.1)),(.live false true (flat cB a4.1.2.2.2))]⟩
def dJ (a0:List Int)(a0_o:Nat)(a0_n:Nat)(a1:Int)(a2:Int)(a3:Int)(a4:eP×Int):List Int×Int×Int->(List Int×Int×Int)⊕((List Int×Int×Int)⊕(Int×List Int))
 | (v4,v5,v6) =>
  (bif (decide ((v5:Int)<=v6)) then
   (bif (!(decide (((pL ((a4.1.1,a4.1.2.1,(v4,a4.1.2.2.2)),a4.2) (v4.getD (a0_o+tN a1) dF) (v4.getD (a0_o+tN v5) dF)):Int) < 0))) then
    (.inl (v4,(v5+1),v6))
   else
    (.inr (aH (bV a0 a0_o a0_n a1 a2 a3 a4) (tN (v6+2 - v5)+1) (v4,v5,v6))))
  else
   (.inr (aH (bV a0 a0_o a0_n a1 a2 a3 a4) (tN (v6+2 - v5)+1) (v4,v5,v6))))
noncomputable def iS:Code:=(aM [1,1,1,0] [] (aL Tryz.f115) []).1
noncomputable def iT:List K:=(aM [1,1,1,0] [] (aL Tryz.f115) []).2
def iG (a0:List Int)(a0_o:Nat)(a0_n:Nat)(a1:Int)(a2:Int)(a3:Int)(a4:eP×Int)(v1c:List SV)(v1n:Nat)(v2 v3:Int):LS:=⟨gD 90 [(0,(.s 0 (0+a0_o*1) a0_n 1)),(1,(iv a1)),(4,(.f 1000075 [(.a [(.p 1 0),(iv a4.2)])])),(11,(iv v2)),(12,(iv v3))],[(.live true true v1c),(.live false false [(.s 2 0 a4.1.1.length 10),(iv a4.1.2.1),(.s 0 0 v1n 1),(.s 3 0 a4.1.2.2.2.length 8)]),(.live false true (flat dC a4.1.1)),(.live false true (flat cB a4.1.2.2.2))]⟩
def cU (a0:List Int)(a0_o:Nat)(a0_n:Nat)(a1:Int)(a2:Int)(a3:Int)(a4:eP×Int):List Int×Int×Int->(List Int×Int×Int)⊕(Int×List Int)
 | (v1,v2,v3) =>
  (aH (dJ a0 a0_o a0_n a1 a2 a3 a4) (tN (v3+2 - v2)+1) (v1,v2,v3))
theorem vV (a0:List Int)(a0_o:Nat)(a0_n:Nat)(a1:Int)(a2:Int)(a3:Int)(a4:eP×Int)(l0:a0.length<=2^63-1)(l4_1_1:a4.1.1.length<=2^63-1)(l4_1_2_2_1:a4.1.2.2.1.length<=2^63-1)(l4_1_2_2_2:a4.1.2.2.2.length<=2^63-1)(hw:a0_o+a0_n<=a0.length/\a0.length<=1048576)(hr:InR a4.1.1.length a0)(hab:0<=a1/\a1<=a3/\a3 < a2/\a2<=↑a0_n) {cx:Cx} (hcx:cx.base=4)
 (n0:Nat) (g0:∀(v1:List Int) (v2 v3:Int),(v1.length=a0.length)/\(InR a4.1.1.length v1)/\(a1 < v2)/\(v2<=v3+2)/\(v3 < a2)/\(a1<=v3)->tN (v3+2 - v2) < n0->Aw.Good Tryz.prog none 9 (bodyPost Tryz.prog Tryz.f115 (RR cx (iv (aH (cU a0 a0_o a0_n a1 a2 a3 a4) n0 (v1,v2,v3)).1) [] [(.live true true (flat c3 (aH (cU a0 a0_o a0_n a1 a2 a3 a4) n0 (v1,v2,v3)).2)),.un,.un,.un])) cx [] (.l iS n0::iT) (iG a0 a0_o a0_n a1 a2 a3 a4 (flat c3 v1) v1.length v2 v3)):∀(n:Nat) (v7:List Int) (v8 v9:Int),(v7.length=a0.length)/\(InR a4.1.1.length v7)/\(a1 < v8)/\(v8<=v9+2)/\(v9 < a2)/\(a1<=v9)/\((v7.length=a0.length))/\((InR a4.1.1.length v7))/\((a1 < v8))/\((v8<=v9+2))/\((v9 < a2))/\((a1<=v9))/\(tN (v9+2 - v8) < n0+1)->tN (v9+2 - v8) < n->Aw.Good Tryz.prog none 9 (bodyPost Tryz.prog Tryz.f115 (RR cx (iv (bA (cU a0 a0_o a0_n a1 a2 a3 a4) n0 (aH (bV a0 a0_o a0_n a1 a2 a3 a4) n (v7,v8,v9))).1) [] [(.live true true (flat c3 (bA (cU a0 a0_o a0_n a1 a2 a3 a4) n0 (aH (bV a0 a0_o a0_n a1 a2 a3 a4) n (v7,v8,v9))).2)),.un,.un,.un])) cx [] (.l mN n::mO n0) (lL a0 a0_o a0_n a1 a2 a3 a4 (flat c3 v7) v7.length v8 v9):=by
 intro n
 induction n with
 | zero=>intro v7 v8 v9 hi hn;exact absurd hn (eI _)
 | succ n ih =>
  intro v7 v8 v9 hi hn
  refine aR ?_
  have hw_0:W (v8+1)=v8+1:=(aS (n:=v8+1) (by omega) (by omega)).trans (by omega)
  have hw_1:W (v9 - 1)=v9 - 1:=(aS (n:=v9 - 1) (by omega) (by omega)).trans (by omega)
  cases h0:(decide ((v8:Int)<=v9)) with
  | true =>
   have q0:=cJ h0
   let t1:List (St Tryz.prog):=[.d h0,.i a1 a0_n,cQ aF v7 a0_o a1 0 1,.i v9 a0_n,cQ aF v7 a0_o v9 0 1,.c [1,2,0,3] (C75 ((a4.1.1,a4.1.2.1,(v7,a4.1.2.2.2)),a4.2) (v7.getD (a0_o+tN a1) dF) (v7.getD (a0_o+tN v9) dF) (by omega) (by(try simp only [Lt]);omega) (by omega) (hi.2.1.at (by omega)) (hi.2.1.at (by omega)))]
   cases h1:(decide (((pL ((a4.1.1,a4.1.2.1,(v7,a4.1.2.2.2)),a4.2) (v7.getD (a0_o+tN a1) dF) (v7.getD (a0_o+tN v9) dF)):Int) < 0)) with
   | true =>
    have q1:=cJ h1
    have e:=Eq.refl (bV a0 a0_o a0_n a1 a2 a3 a4 (v7,v8,v9));conv at e=>rhs;simp only [bV,h0,h1,aT]
    rw [aI e]
    refine ba (t1++[.d h1]) [] [0,1,4,11,12] [] hcx (m:=n) mN (mO n0) (lL a0 a0_o a0_n a1 a2 a3 a4 (flat c3 v7) (v7.length) v8 (W (v9 - 1))) (by kernel_rfl) ?_
    exact ih v7 v8 (W (v9 - 1)) (by refine⟨?_,?_,?_,?_,?_,?_,?_,?_,?_,?_,?_,?_,?_⟩<;>first | omega | assumption | exact hi.2.1 | exact hi.2.2.1 | (simp only [Lt];omega) | exact InR.swap hi.2.1 (by omega) (by omega) | exact InR.swap hr (by omega) (by omega)) (by omega)
   | false =>
    have q1:=cN h1
    let t2:List (St Tryz.prog):=(t1++[.d h1])
    cases h2:(decide ((v8:Int) > v9)) with
    | true =>
     have q2:=cJ h2
     have e:=Eq.refl (bV a0 a0_o a0_n a1 a2 a3 a4 (v7,v8,v9));conv at e=>rhs;simp only [bV,h0,h1,h2,aT]
     rw [aJ,e]
     try dsimp only [bA]
     try dsimp only
     exact wW (t2++[.d h2]) [] [0] [] hcx (by kernel_rfl)
    | false =>
     have q2:=cN h2
     have e:=Eq.refl (bV a0 a0_o a0_n a1 a2 a3 a4 (v7,v8,v9));conv at e=>rhs;simp only [bV,h0,h1,h2,aT]
     rw [aJ,e]
     refine ba (t2++[.d h2,.i v9 a0_n,cQ aF v7 a0_o v9 0 1,.i v8 a0_n,cQ aF v7 a0_o v8 0 1,.i v8 a0_n,.p (show((0+a0_o*1+tN v8*1)+1<=(flat c3 v7).length) from(aX aF (by first | omega | (simp only [Lt];omega)) (o:=0) (Nb rfl))),.i v9 a0_n,.p (show((0+a0_o*1+tN v9*1)+1<=(splice (flat c3 v7) (0+a0_o*1+tN v8*1) [(iv (v7.getD (a0_o+tN v9) dF))]).length) from(by rw [show(splice (flat c3 v7) (0+a0_o*1+tN v8*1) [(iv (v7.getD (a0_o+tN v9) dF))])=flat c3 (v7.set (a0_o+tN v8) (v7.getD (a0_o+tN v9) dF)) from(aP aF (by first | omega | (simp only [Lt];omega)) (o:=0) (d:=dF) (Nb rfl) rfl)];exact aX aF (by first | omega | (simp only [Lt];omega)) (o:=0) (Nb rfl)))]) [] [0,1,4,11,12] [] hcx (m:=n0) iS (iT) (iG a0 a0_o a0_n a1 a2 a3 a4 (splice (splice (flat c3 v7) (0+a0_o*1+tN v8*1) [(iv (v7.getD (a0_o+tN v9) dF))]) (0+a0_o*1+tN v9*1) [(iv (v7.getD (a0_o+tN v8) dF))]) (v7.length) (W (v8+1)) (W (v9 - 1))) (by kernel_rfl) ?_
     have z0:(splice (splice (flat c3 v7) (0+a0_o*1+tN v8*1) [(iv (v7.getD (a0_o+tN v9) dF))]) (0+a0_o*1+tN v9*1) [(iv (v7.getD (a0_o+tN v8) dF))])=flat c3 ((v7.set (a0_o+tN v8) (v7.getD (a0_o+tN v9) dF)).set (a0_o+tN v9) (v7.getD (a0_o+tN v8) dF)):=(by rw [show(splice (flat c3 v7) (0+a0_o*1+tN v8*1) [(iv (v7.getD (a0_o+tN v9) dF))])=flat c3 (v7.set (a0_o+tN v8) (v7.getD (a0_o+tN v9) dF)) from(aP aF (by first | omega | (simp only [Lt];omega)) (o:=0) (d:=dF) (Nb rfl) rfl)];exact aP aF (by first | omega | (simp only [Lt];omega)) (o:=0) (d:=dF) (Nb rfl) rfl)
     have z1:v7.length=((v7.set (a0_o+tN v8) (v7.getD (a0_o+tN v9) dF)).set (a0_o+tN v9) (v7.getD (a0_o+tN v8) dF)).length:=by simp
     rw [z0,z1]
     exact g0 ((v7.set (a0_o+tN v8) (v7.getD (a0_o+tN v9) dF)).set (a0_o+tN v9) (v7.getD (a0_o+tN v8) dF)) (W (v8+1)) (W (v9 - 1)) (by refine⟨?_,?_,?_,?_,?_,?_⟩<;>first | omega | assumption | exact hi.2.1 | exact hi.2.2.1 | (simp only [Lt];omega) | exact InR.swap hi.2.1 (by omega) (by omega) | exact InR.swap hr (by omega) (by omega)) (by omega)
  | false =>
   have q0:=cN h0
   let t1:List (St Tryz.prog):=[.d h0]
   cases h1:(decide ((v8:Int) > v9)) with
   | true =>
    have q1:=cJ h1
    have e:=Eq.refl (bV a0 a0_o a0_n a1 a2 a3 a4 (v7,v8,v9));conv at e=>rhs;simp only [bV,h0,h1,aT]
    rw [aJ,e]
    try dsimp only [bA]
    try dsimp only
    exact wW (t1++[.d h1]) [] [0] [] hcx (by kernel_rfl)
   | false =>
    have q1:=cN h1
    have e:=Eq.refl (bV a0 a0_o a0_n a1 a2 a3 a4 (v7,v8,v9));conv at e=>rhs;simp only [bV,h0,h1,aT]
    rw [aJ,e]
    refine ba (t1++[.d h1,.i v9 a0_n,cQ aF v7 a0_o v9 0 1,.i v8 a0_n,cQ aF v7 a0_o v8 0 1,.i v8 a0_n,.p (show((0+a0_o*1+tN v8*1)+1<=(flat c3 v7).length) from(aX aF (by first | omega | (simp only [Lt];omega)) (o:=0) (Nb rfl))),.i v9 a0_n,.p (show((0+a0_o*1+tN v9*1)+1<=(splice (flat c3 v7) (0+a0_o*1+tN v8*1) [(iv (v7.getD (a0_o+tN v9) dF))]).length) from(by rw [show(splice (flat c3 v7) (0+a0_o*1+tN v8*1) [(iv (v7.getD (a0_o+tN v9) dF))])=flat c3 (v7.set (a0_o+tN v8) (v7.getD (a0_o+tN v9) dF)) from(aP aF (by first | omega | (simp only [Lt];omega)) (o:=0) (d:=dF) (Nb rfl) rfl)];exact aX aF (by first | omega | (simp only [Lt];omega)) (o:=0) (Nb rfl)))]) [] [0,1,4,11,12] [] hcx (m:=n0) iS (iT) (iG a0 a0_o a0_n a1 a2 a3 a4 (splice (splice (flat c3 v7) (0+a0_o*1+tN v8*1) [(iv (v7.getD (a0_o+tN v9) dF))]) (0+a0_o*1+tN v9*1) [(iv (v7.getD (a0_o+tN v8) dF))]) (v7.length) (W (v8+1)) (W (v9 - 1))) (by kernel_rfl) ?_
    have z0:(splice (splice (flat c3 v7) (0+a0_o*1+tN v8*1) [(iv (v7.getD (a0_o+tN v9) dF))]) (0+a0_o*1+tN v9*1) [(iv (v7.getD (a0_o+tN v8) dF))])=flat c3 ((v7.set (a0_o+tN v8) (v7.getD (a0_o+tN v9) dF)).set (a0_o+tN v9) (v7.getD (a0_o+tN v8) dF)):=(by rw [show(splice (flat c3 v7) (0+a0_o*1+tN v8*1) [(iv (v7.getD (a0_o+tN v9) dF))])=flat c3 (v7.set (a0_o+tN v8) (v7.getD (a0_o+tN v9) dF)) from(aP aF (by first | omega | (simp only [Lt];omega)) (o:=0) (d:=dF) (Nb rfl) rfl)];exact aP aF (by first | omega | (simp only [Lt];omega)) (o:=0) (d:=dF) (Nb rfl) rfl)
    have z1:v7.length=((v7.set (a0_o+tN v8) (v7.getD (a0_o+tN v9) dF)).set (a0_o+tN v9) (v7.getD (a0_o+tN v8) dF)).length:=by simp
    rw [z0,z1]
    exact g0 ((v7.set (a0_o+tN v8) (v7.getD (a0_o+tN v9) dF)).set (a0_o+tN v9) (v7.getD (a0_o+tN v8) dF)) (W (v8+1)) (W (v9 - 1)) (by refine⟨?_,?_,?_,?_,?_,?_⟩<;>first | omega | assumption | exact hi.2.1 | exact hi.2.2.1 | (simp only [Lt];omega) | exact InR.swap hi.2.1 (by omega) (by omega) | exact InR.swap hr (by omega) (by omega)) (by omega)
theorem aEt (a0:List Int)(a0_o:Nat)(a0_n:Nat)(a1:Int)(a2:Int)(a3:Int)(a4:eP×Int)(l0:a0.length<=2^63-1)(l4_1_1:a4.1.1.length<=2^63-1)(l4_1_2_2_1:a4.1.2.2.1.length<=2^63-1)(l4_1_2_2_2:a4.1.2.2.2.length<=2^63-1)(hw:a0_o+a0_n<=a0.length/\a0.length<=1048576)(hr:InR a4.1.1.length a0)(hab:0<=a1/\a1<=a3/\a3 < a2/\a2<=↑a0_n) {cx:Cx} (hcx:cx.base=4)
 (n0:Nat) (g0:∀(v1:List Int) (v2 v3:Int),(v1.length=a0.length)/\(InR a4.1.1.length v1)/\(a1 < v2)/\(v2<=v3+2)/\(v3 < a2)/\(a1<=v3)->tN (v3+2 - v2) < n0->Aw.Good Tryz.prog none 9 (bodyPost Tryz.prog Tryz.f115 (RR cx (iv (aH (cU a0 a0_o a0_n a1 a2 a3 a4) n0 (v1,v2,v3)).1) [] [(.live true true (flat c3 (aH (cU a0 a0_o a0_n a1 a2 a3 a4) n0 (v1,v2,v3)).2)),.un,.un,.un])) cx [] (.l iS n0::iT) (iG a0 a0_o a0_n a1 a2 a3 a4 (flat c3 v1) v1.length v2 v3)):∀(n:Nat) (v4:List Int) (v5 v6:Int),(v4.length=a0.length)/\(InR a4.1.1.length v4)/\(a1 < v5)/\(v5<=v6+2)/\(v6 < a2)/\(a1<=v6)/\((v4.length=a0.length))/\((InR a4.1.1.length v4))/\((a1 < v5))/\((v5<=v6+2))/\((v6 < a2))/\((a1<=v6))/\(tN (v6+2 - v5) < n0+1)->tN (v6+2 - v5) < n->Aw.Good Tryz.prog none 9 (bodyPost Tryz.prog Tryz.f115 (RR cx (iv (bA (cU a0 a0_o a0_n a1 a2 a3 a4) n0 (aH (dJ a0 a0_o a0_n a1 a2 a3 a4) n (v4,v5,v6))).1) [] [(.live true true (flat c3 (bA (cU a0 a0_o a0_n a1 a2 a3 a4) n0 (aH (dJ a0 a0_o a0_n a1 a2 a3 a4) n (v4,v5,v6))).2)),.un,.un,.un])) cx [] (.l qO n::qP n0) (oP a0 a0_o a0_n a1 a2 a3 a4 (flat c3 v4) v4.length v5 v6):=by
 intro n
 induction n with
 | zero=>intro v4 v5 v6 hi hn;exact absurd hn (eI _)
 | succ n ih =>
  intro v4 v5 v6 hi hn
  refine aR ?_
  have hw_0:W (v5+1)=v5+1:=(aS (n:=v5+1) (by omega) (by omega)).trans (by omega)
  have hw_1:W (v6 - 1)=v6 - 1:=(aS (n:=v6 - 1) (by omega) (by omega)).trans (by omega)
  cases h0:(decide ((v5:Int)<=v6)) with
  | true =>
   have q0:=cJ h0
   let t1:List (St Tryz.prog):=[.d h0,.i a1 a0_n,cQ aF v4 a0_o a1 0 1,.i v5 a0_n,cQ aF v4 a0_o v5 0 1,.c [1,2,0,3] (C75 ((a4.1.1,a4.1.2.1,(v4,a4.1.2.2.2)),a4.2) (v4.getD (a0_o+tN a1) dF) (v4.getD (a0_o+tN v5) dF) (by omega) (by(try simp only [Lt]);omega) (by omega) (hi.2.1.at (by omega)) (hi.2.1.at (by omega)))]
   cases h1:(!(decide (((pL ((a4.1.1,a4.1.2.1,(v4,a4.1.2.2.2)),a4.2) (v4.getD (a0_o+tN a1) dF) (v4.getD (a0_o+tN v5) dF)):Int) < 0))) with
   | true =>
    have e:=Eq.refl (dJ a0 a0_o a0_n a1 a2 a3 a4 (v4,v5,v6));conv at e=>rhs;simp only [dJ,h0,h1,aT]
    rw [aI e]
    refine ba (t1++[.d h1]) [] [0,1,4,11,12] [] hcx (m:=n) qO (qP n0) (oP a0 a0_o a0_n a1 a2 a3 a4 (flat c3 v4) (v4.length) (W (v5+1)) v6) (by kernel_rfl) ?_
    have z0:(W (v5+1))=(v5+1):=aS (by omega) (by omega)
    rw [z0]
    exact ih v4 (v5+1) v6 (by refine⟨?_,?_,?_,?_,?_,?_,?_,?_,?_,?_,?_,?_,?_⟩<;>first | omega | assumption | exact hi.2.1 | exact hi.2.2.1 | (simp only [Lt];omega) | exact InR.swap hi.2.1 (by omega) (by omega) | exact InR.swap hr (by omega) (by omega)) (by omega)
   | false =>
    have e:=Eq.refl (dJ a0 a0_o a0_n a1 a2 a3 a4 (v4,v5,v6));conv at e=>rhs;simp only [dJ,h0,h1,aT]
    rw [aJ,e]
    refine en (t1++[.d h1]) [] [0,1,4,11,12] [] hcx mN (mO n0) (lL a0 a0_o a0_n a1 a2 a3 a4 (flat c3 v4) (v4.length) v5 v6) (tN (v6+2 - v5)+1) (by kernel_rfl) ?_
    exact vV a0 a0_o a0_n a1 a2 a3 a4 l0 l4_1_1 l4_1_2_2_1 l4_1_2_2_2 hw hr hab hcx n0 g0 (tN (v6+2 - v5)+1) v4 v5 v6 (by refine⟨?_,?_,?_,?_,?_,?_,?_,?_,?_,?_,?_,?_,?_⟩<;>first | omega | assumption | exact hi.2.1 | exact hi.2.2.1 | (simp only [Lt];omega) | exact InR.swap hi.2.1 (by omega) (by omega) | exact InR.swap hr (by omega) (by omega)) (by omega)
  | false =>
   have q0:=cN h0
   have e:=Eq.refl (dJ a0 a0_o a0_n a1 a2 a3 a4 (v4,v5,v6));conv at e=>rhs;simp only [dJ,h0,aT]
   rw [aJ,e]
   refine en [.d h0] [] [0,1,4,11,12] [] hcx mN (mO n0) (lL a0 a0_o a0_n a1 a2 a3 a4 (flat c3 v4) (v4.length) v5 v6) (tN (v6+2 - v5)+1) (by kernel_rfl) ?_
   exact vV a0 a0_o a0_n a1 a2 a3 a4 l0 l4_1_1 l4_1_2_2_1 l4_1_2_2_2 hw hr hab hcx n0 g0 (tN (v6+2 - v5)+1) v4 v5 v6 (by refine⟨?_,?_,?_,?_,?_,?_,?_,?_,?_,?_,?_,?_,?_⟩<;>first | omega | assumption | exact hi.2.1 | exact hi.2.2.1 | (simp only [Lt];omega) | exact InR.swap hi.2.1 (by omega) (by omega) | exact InR.swap hr (by omega) (by omega)) (by omega)
theorem aEu (a0:List Int)(a0_o:Nat)(a0_n:Nat)(a1:Int)(a2:Int)(a3:Int)(a4:eP×Int)(l0:a0.length<=2^63-1)(l4_1_1:a4.1.1.length<=2^63-1)(l4_1_2_2_1:a4.1.2.2.1.length<=2^63-1)(l4_1_2_2_2:a4.1.2.2.2.length<=2^63-1)(hw:a0_o+a0_n<=a0.length/\a0.length<=1048576)(hr:InR a4.1.1.length a0)(hab:0<=a1/\a1<=a3/\a3 < a2/\a2<=↑a0_n) {cx:Cx} (hcx:cx.base=4):∀(n:Nat) (v1:List Int) (v2 v3:Int),(v1.length=a0.length)/\(InR a4.1.1.length v1)/\(a1 < v2)/\(v2<=v3+2)/\(v3 < a2)/\(a1<=v3)->tN (v3+2 - v2) < n->Aw.Good Tryz.prog none 9 (bodyPost Tryz.prog Tryz.f115 (RR cx (iv (aH (cU a0 a0_o a0_n a1 a2 a3 a4) n (v1,v2,v3)).1) [] [(.live true true (flat c3 (aH (cU a0 a0_o a0_n a1 a2 a3 a4) n (v1,v2,v3)).2)),.un,.un,.un])) cx [] (.l iS n::iT) (iG a0 a0_o a0_n a1 a2 a3 a4 (flat c3 v1) v1.length v2 v3):=by
 intro n
 induction n with
 | zero=>intro v1 v2 v3 hi hn;exact absurd hn (eI _)
 | succ n ih =>
  intro v1 v2 v3 hi hn
  refine aR ?_
  have hw_0:W (v2+1)=v2+1:=(aS (n:=v2+1) (by omega) (by omega)).trans (by omega)
  have hw_1:W (v3 - 1)=v3 - 1:=(aS (n:=v3 - 1) (by omega) (by omega)).trans (by omega)
  have e:=Eq.refl (cU a0 a0_o a0_n a1 a2 a3 a4 (v1,v2,v3));conv at e=>rhs;simp only [cU]
  rw [aJ,e]
  refine en [] [] [0,1,4,11,12] [] hcx qO (qP n) (oP a0 a0_o a0_n a1 a2 a3 a4 (flat c3 v1) (v1.length) v2 v3) (tN (v3+2 - v2)+1) (by kernel_rfl) ?_
  exact aEt a0 a0_o a0_n a1 a2 a3 a4 l0 l4_1_1 l4_1_2_2_1 l4_1_2_2_2 hw hr hab hcx n ih (tN (v3+2 - v2)+1) v1 v2 v3 (by refine⟨?_,?_,?_,?_,?_,?_,?_,?_,?_,?_,?_,?_,?_⟩<;>first | omega | assumption | exact hi.2.1 | exact hi.2.2.1 | (simp only [Lt];omega) | exact InR.swap hi.2.1 (by omega) (by omega) | exact InR.swap hr (by omega) (by omega)) (by omega)
def dE (a0:List Int)(a0_o:Nat)(a0_n:Nat)(a1:Int)(a2:Int)(a3:Int)(a4:eP×Int):Int×List Int :=
 (aH (cU a0 a0_o a0_n a1 a2 a3 a4) (tN ((W (a2 - 1))+2 - (W (a1+1)))+1) (((a0.set (a0_o+tN a1) (a0.getD (a0_o+tN a3) dF)).set (a0_o+tN a3) (a0.getD (a0_o+tN a1) dF)),(W (a1+1)),(W (a2 - 1))))
theorem aJb (a0:List Int)(a0_o:Nat)(a0_n:Nat)(a1:Int)(a2:Int)(a3:Int)(a4:eP×Int)(l0:a0.length<=2^63-1)(l4_1_1:a4.1.1.length<=2^63-1)(l4_1_2_2_1:a4.1.2.2.1.length<=2^63-1)(l4_1_2_2_2:a4.1.2.2.2.length<=2^63-1)(hw:a0_o+a0_n<=a0.length/\a0.length<=1048576)(hr:InR a4.1.1.length a0)(hab:0<=a1/\a1<=a3/\a3 < a2/\a2<=↑a0_n):Con Tryz.prog 115 [(.s 0 (0+a0_o*1) a0_n 1),(iv a1),(iv a2),(iv a3),(.f 1000075 [(.a [(.p 1 0),(iv a4.2)])])] [(.live true true (flat c3 a0)),(.live false false [(.s 2 0 a4.1.1.length 10),(iv a4.1.2.1),(.s 0 0 a0.length 1),(.s 3 0 a4.1.2.2.2.length 8)]),(.live false true (flat dC a4.1.1)),(.live false true (flat cB a4.1.2.2.2))] (iv (dE a0 a0_o a0_n a1 a2 a3 a4).1) [] [(.live true true (flat c3 (dE a0 a0_o a0_n a1 a2 a3 a4).2)),.un,.un,.un]:=by
 refine aY Tryz.func115 (by kernel_rfl) fun cx hcx=>?_
 have hw_0:W (a1+1)=a1+1:=(aS (n:=a1+1) (by omega) (by omega)).trans (by omega)
 have hw_1:W (a2 - 1)=a2 - 1:=(aS (n:=a2 - 1) (by omega) (by omega)).trans (by omega)
 have e:=Eq.refl (dE a0 a0_o a0_n a1 a2 a3 a4);conv at e=>rhs;simp only [dE]
 rw [e]
 refine en [.i a3 a0_n,cQ aF a0 a0_o a3 0 1,.i a1 a0_n,cQ aF a0 a0_o a1 0 1,.i a1 a0_n,.p (show((0+a0_o*1+tN a1*1)+1<=(flat c3 a0).length) from(aX aF (by first | omega | (simp only [Lt];omega)) (o:=0) (Nb rfl))),.i a3 a0_n,.p (show((0+a0_o*1+tN a3*1)+1<=(splice (flat c3 a0) (0+a0_o*1+tN a1*1) [(iv (a0.getD (a0_o+tN a3) dF))]).length) from(by rw [show(splice (flat c3 a0) (0+a0_o*1+tN a1*1) [(iv (a0.getD (a0_o+tN a3) dF))])=flat c3 (a0.set (a0_o+tN a1) (a0.getD (a0_o+tN a3) dF)) from(aP aF (by first | omega | (simp only [Lt];omega)) (o:=0) (d:=dF) (Nb rfl) rfl)];exact aX aF (by first | omega | (simp only [Lt];omega)) (o:=0) (Nb rfl)))] [] [0,1,4,11,12] [] hcx iS (iT) (iG a0 a0_o a0_n a1 a2 a3 a4 (splice (splice (flat c3 a0) (0+a0_o*1+tN a1*1) [(iv (a0.getD (a0_o+tN a3) dF))]) (0+a0_o*1+tN a3*1) [(iv (a0.getD (a0_o+tN a1) dF))]) (a0.length) (W (a1+1)) (W (a2 - 1))) (tN ((W (a2 - 1))+2 - (W (a1+1)))+1) (by kernel_rfl) ?_
 have z0:(splice (splice (flat c3 a0) (0+a0_o*1+tN a1*1) [(iv (a0.getD (a0_o+tN a3) dF))]) (0+a0_o*1+tN a3*1) [(iv (a0.getD (a0_o+tN a1) dF))])=flat c3 ((a0.set (a0_o+tN a1) (a0.getD (a0_o+tN a3) dF)).set (a0_o+tN a3) (a0.getD (a0_o+tN a1) dF)):=(by rw [show(splice (flat c3 a0) (0+a0_o*1+tN a1*1) [(iv (a0.getD (a0_o+tN a3) dF))])=flat c3 (a0.set (a0_o+tN a1) (a0.getD (a0_o+tN a3) dF)) from(aP aF (by first | omega | (simp only [Lt];omega)) (o:=0) (d:=dF) (Nb rfl) rfl)];exact aP aF (by first | omega | (simp only [Lt];omega)) (o:=0) (d:=dF) (Nb rfl) rfl)
 have z1:a0.length=((a0.set (a0_o+tN a1) (a0.getD (a0_o+tN a3) dF)).set (a0_o+tN a3) (a0.getD (a0_o+tN a1) dF)).length:=by simp
 rw [z0,z1]
 exact aEu a0 a0_o a0_n a1 a2 a3 a4 l0 l4_1_1 l4_1_2_2_1 l4_1_2_2_2 hw hr hab hcx (tN ((W (a2 - 1))+2 - (W (a1+1)))+1) ((a0.set (a0_o+tN a1) (a0.getD (a0_o+tN a3) dF)).set (a0_o+tN a3) (a0.getD (a0_o+tN a1) dF)) (W (a1+1)) (W (a2 - 1)) (by refine⟨?_,?_,?_,?_,?_,?_⟩<;>first | omega | assumption | exact hi.2.1 | exact hi.2.2.1 | (simp only [Lt];omega) | exact InR.swap hi.2.1 (by omega) (by omega) | exact InR.swap hr (by omega) (by omega)) (by omega)
end Go.Proofs.YtkdfcbmcgnaicaaGreat
