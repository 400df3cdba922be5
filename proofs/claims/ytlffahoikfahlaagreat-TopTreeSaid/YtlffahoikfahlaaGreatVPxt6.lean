/-
  Parts of the proofs of the laws: the executor, what functions of the program compute, and that it is what the statements ask. No premise.
-/
import Derived.Test.YtlffahoikfahlaaGreatVPxt5
import Derived.Shelf.Small.Bits
import Derived.Lib.ItoaNum
set_option linter.unusedVariables false
set_option linter.unusedSimpArgs false
set_option maxHeartbeats 4000000
open Int renaming toNat → tN
open Inhabited renaming default → dF
open Go.IntKind renaming wrap → iW
open BitVec renaming ofInt → bO
open Int renaming tdiv → tD
open Int renaming fdiv → fD
open Int renaming tmod → mD
namespace Go.Proofs.YtlffahoikfahlaaGreat
open Go.Proofs Go.Aw Go.RowKit
set_option maxRecDepth 100000
noncomputable def sL:=bC [1,1,0,1] [] (aX Tryz.f18) []
def pA (a0:ZL×eB)(v1c:List SV)(v1n:Nat)(v2:Int):LS:=⟨jT 69 [(1,(.p 2 0)),(3,(.s 3 0 v1n 1)),(4,(iv v2))],[(.live false true (flat c3 a0.1)),(.live false true (flat fP a0.2)),(.live true false [(.s 0 0 a0.1.length 1),(.s 1 0 a0.2.length 8)]),(.live true true v1c)]⟩
def jA (a0:ZL×eB):ZL×Int->(ZL×Int)⊕(Int) | (v1,v2) => (bif (decide ((v2:Int)≥0))then(bif (decide (((a0.2.getD (tN v2) dF).2.2.1:Int) > v2))then(bif (decide (((a0.2.getD (tN v2) dF).2.2.1:Int) < (v1.length:Int)))then(bif (decide (((a0.2.getD (tN v2) dF).2.2.2.1:Int) > v2))then(bif (decide (((a0.2.getD (tN v2) dF).2.2.2.1:Int) < (v1.length:Int)))then(.inl ((((v1.set (tN v2) 1).set (tN v2) (bX ((v1.set (tN v2) 1).getD (tN v2) dF) (W (((v1.set (tN v2) 1).getD (tN (a0.2.getD (tN v2) dF).2.2.1) dF)+1)))).set (tN v2) (bX (((v1.set (tN v2) 1).set (tN v2) (bX ((v1.set (tN v2) 1).getD (tN v2) dF) (W (((v1.set (tN v2) 1).getD (tN (a0.2.getD (tN v2) dF).2.2.1) dF)+1)))).getD (tN v2) dF) (W ((((v1.set (tN v2) 1).set (tN v2) (bX ((v1.set (tN v2) 1).getD (tN v2) dF) (W (((v1.set (tN v2) 1).getD (tN (a0.2.getD (tN v2) dF).2.2.1) dF)+1)))).getD (tN (a0.2.getD (tN v2) dF).2.2.2.1) dF)+1)))),(W (v2 - 1))))else(.inl (((v1.set (tN v2) 1).set (tN v2) (bX ((v1.set (tN v2) 1).getD (tN v2) dF) (W (((v1.set (tN v2) 1).getD (tN (a0.2.getD (tN v2) dF).2.2.1) dF)+1)))),(W (v2 - 1)))))else(.inl (((v1.set (tN v2) 1).set (tN v2) (bX ((v1.set (tN v2) 1).getD (tN v2) dF) (W (((v1.set (tN v2) 1).getD (tN (a0.2.getD (tN v2) dF).2.2.1) dF)+1)))),(W (v2 - 1)))))else(bif (decide (((a0.2.getD (tN v2) dF).2.2.2.1:Int) > v2))then(bif (decide (((a0.2.getD (tN v2) dF).2.2.2.1:Int) < (v1.length:Int)))then(.inl (((v1.set (tN v2) 1).set (tN v2) (bX ((v1.set (tN v2) 1).getD (tN v2) dF) (W (((v1.set (tN v2) 1).getD (tN (a0.2.getD (tN v2) dF).2.2.2.1) dF)+1)))),(W (v2 - 1))))else(.inl ((v1.set (tN v2) 1),(W (v2 - 1)))))else(.inl ((v1.set (tN v2) 1),(W (v2 - 1))))))else(bif (decide (((a0.2.getD (tN v2) dF).2.2.2.1:Int) > v2))then(bif (decide (((a0.2.getD (tN v2) dF).2.2.2.1:Int) < (v1.length:Int)))then(.inl (((v1.set (tN v2) 1).set (tN v2) (bX ((v1.set (tN v2) 1).getD (tN v2) dF) (W (((v1.set (tN v2) 1).getD (tN (a0.2.getD (tN v2) dF).2.2.2.1) dF)+1)))),(W (v2 - 1))))else(.inl ((v1.set (tN v2) 1),(W (v2 - 1)))))else(.inl ((v1.set (tN v2) 1),(W (v2 - 1))))))else(bif (((v1.length:Int):Int) == 0)then(.inr 0)else(.inr (v1.getD (tN 0) dF))))
theorem bAi (a0:ZL×eB)(l0_1:a0.1.length<=2^63-1)(l0_2:a0.2.length<=2^63-1)(hl:a0.2.length<=1048576) {cx:Cx} (hcx:cx.base=2):∀(n:Nat) (v1:ZL) (v2:Int),(v1.length=a0.2.length)/\(-1<=v2)/\(v2 < a0.2.length)->tN (v2+1) < n->gG Tryz.f18 cx (iv (aE (jA a0) n (v1,v2))) [] [] (.l sL.1 n::sL.2) (pA a0 (flat c3 v1) v1.length v2):=by
 intro n
 induction n with|zero=>intro v1 v2 hi hn;exact absurd hn (fW _)|succ n ih=>?_
 intro v1 v2 hi hn;refine aS ?_;have hw_i:=aG (n:=v2 - 1) (by omega) (by omega);cases h0:(decide ((v2:Int)≥0))
 case true=>
  have q0:=dE h0;let t1:SL:=[.d h0,.i v2 (v1.length),.p (show((0+tN v2*1)+1<=(flat c3 v1).length) from(iS aB (by first | omega | (simp only [Lt];omega)) (o:=0) (Nb rfl))),.i v2 (a0.2.length),.L hU a0.2 v2 2 1,.i v2 (a0.2.length),.L hU a0.2 v2 3 1,.u 200,.T,.i 0 2];cases h1:(decide (((a0.2.getD (tN v2) dF).2.2.1:Int) > v2))
  case true=>
   have q1:=dE h1;let t2:SL:=t1++[.d h1];cases h2:(decide (((a0.2.getD (tN v2) dF).2.2.1:Int) < (v1.length:Int)))
   case true=>
    have q2:=dE h2;let t3:SL:=t2++[.d h2,.i v2 (v1.length),.R aB (v1.set (tN v2) 1) v2 0 1 (show(splice (flat c3 v1) (0+tN v2*1) [(iv 1)])=flat c3 (v1.set (tN v2) 1) from(bT aB (by first | omega | (simp only [Lt];omega)) (o:=0) (d:=dF) (Nb rfl) rfl)),.i ((a0.2.getD (tN v2) dF).2.2.1) (v1.length),.R aB (v1.set (tN v2) 1) (a0.2.getD (tN v2) dF).2.2.1 0 1 (show(splice (flat c3 v1) (0+tN v2*1) [(iv 1)])=flat c3 (v1.set (tN v2) 1) from(bT aB (by first | omega | (simp only [Lt];omega)) (o:=0) (d:=dF) (Nb rfl) rfl)),.i v2 (v1.length),.p (show((0+tN v2*1)+1<=(splice (flat c3 v1) (0+tN v2*1) [(iv 1)]).length) from(by rw [show(splice (flat c3 v1) (0+tN v2*1) [(iv 1)])=flat c3 (v1.set (tN v2) 1) from(bT aB (by first | omega | (simp only [Lt];omega)) (o:=0) (d:=dF) (Nb rfl) rfl)];exact iS aB (by first | omega | (simp only [Lt];omega)) (o:=0) (Nb rfl))),.u 0,.T,.i 1 2];cases h3:(decide (((a0.2.getD (tN v2) dF).2.2.2.1:Int) > v2))
    case true=>
     have q3:=dE h3;let t4:SL:=t3++[.d h3];cases h4:(decide (((a0.2.getD (tN v2) dF).2.2.2.1:Int) < (v1.length:Int)))
     case true=>
      have q4:=dE h4;have e:=Eq.refl (jA a0 (v1,v2));(conv at e=>rhs;simp only [jA,h0,h1,h2,h3,h4,aQ]);rw [aD e];refine bA n (t4++[.d h4,.i v2 (v1.length),.R aB ((v1.set (tN v2) 1).set (tN v2) (bX ((v1.set (tN v2) 1).getD (tN v2) dF) (W (((v1.set (tN v2) 1).getD (tN (a0.2.getD (tN v2) dF).2.2.1) dF)+1)))) v2 0 1 (show(splice (splice (flat c3 v1) (0+tN v2*1) [(iv 1)]) (0+tN v2*1) [(iv (bX ((v1.set (tN v2) 1).getD (tN v2) dF) (W (((v1.set (tN v2) 1).getD (tN (a0.2.getD (tN v2) dF).2.2.1) dF)+1))))])=flat c3 ((v1.set (tN v2) 1).set (tN v2) (bX ((v1.set (tN v2) 1).getD (tN v2) dF) (W (((v1.set (tN v2) 1).getD (tN (a0.2.getD (tN v2) dF).2.2.1) dF)+1)))) from(by rw [show(splice (flat c3 v1) (0+tN v2*1) [(iv 1)])=flat c3 (v1.set (tN v2) 1) from(bT aB (by first | omega | (simp only [Lt];omega)) (o:=0) (d:=dF) (Nb rfl) rfl)];exact bT aB (by first | omega | (simp only [Lt];omega)) (o:=0) (d:=dF) (Nb rfl) rfl)),.i ((a0.2.getD (tN v2) dF).2.2.2.1) (v1.length),.R aB ((v1.set (tN v2) 1).set (tN v2) (bX ((v1.set (tN v2) 1).getD (tN v2) dF) (W (((v1.set (tN v2) 1).getD (tN (a0.2.getD (tN v2) dF).2.2.1) dF)+1)))) (a0.2.getD (tN v2) dF).2.2.2.1 0 1 (show(splice (splice (flat c3 v1) (0+tN v2*1) [(iv 1)]) (0+tN v2*1) [(iv (bX ((v1.set (tN v2) 1).getD (tN v2) dF) (W (((v1.set (tN v2) 1).getD (tN (a0.2.getD (tN v2) dF).2.2.1) dF)+1))))])=flat c3 ((v1.set (tN v2) 1).set (tN v2) (bX ((v1.set (tN v2) 1).getD (tN v2) dF) (W (((v1.set (tN v2) 1).getD (tN (a0.2.getD (tN v2) dF).2.2.1) dF)+1)))) from(by rw [show(splice (flat c3 v1) (0+tN v2*1) [(iv 1)])=flat c3 (v1.set (tN v2) 1) from(bT aB (by first | omega | (simp only [Lt];omega)) (o:=0) (d:=dF) (Nb rfl) rfl)];exact bT aB (by first | omega | (simp only [Lt];omega)) (o:=0) (d:=dF) (Nb rfl) rfl)),.i v2 (v1.length),.p (show((0+tN v2*1)+1<=(splice (splice (flat c3 v1) (0+tN v2*1) [(iv 1)]) (0+tN v2*1) [(iv (bX ((v1.set (tN v2) 1).getD (tN v2) dF) (W (((v1.set (tN v2) 1).getD (tN (a0.2.getD (tN v2) dF).2.2.1) dF)+1))))]).length) from(by rw [show(splice (splice (flat c3 v1) (0+tN v2*1) [(iv 1)]) (0+tN v2*1) [(iv (bX ((v1.set (tN v2) 1).getD (tN v2) dF) (W (((v1.set (tN v2) 1).getD (tN (a0.2.getD (tN v2) dF).2.2.1) dF)+1))))])=flat c3 ((v1.set (tN v2) 1).set (tN v2) (bX ((v1.set (tN v2) 1).getD (tN v2) dF) (W (((v1.set (tN v2) 1).getD (tN (a0.2.getD (tN v2) dF).2.2.1) dF)+1)))) from(by rw [show(splice (flat c3 v1) (0+tN v2*1) [(iv 1)])=flat c3 (v1.set (tN v2) 1) from(bT aB (by first | omega | (simp only [Lt];omega)) (o:=0) (d:=dF) (Nb rfl) rfl)];exact bT aB (by first | omega | (simp only [Lt];omega)) (o:=0) (d:=dF) (Nb rfl) rfl)];exact iS aB (by first | omega | (simp only [Lt];omega)) (o:=0) (Nb rfl))),.u 0,.F]) [1,3,4] [2,3] hcx sL (pA a0 (splice (splice (splice (flat c3 v1) (0+tN v2*1) [(iv 1)]) (0+tN v2*1) [(iv (bX ((v1.set (tN v2) 1).getD (tN v2) dF) (W (((v1.set (tN v2) 1).getD (tN (a0.2.getD (tN v2) dF).2.2.1) dF)+1))))]) (0+tN v2*1) [(iv (bX (((v1.set (tN v2) 1).set (tN v2) (bX ((v1.set (tN v2) 1).getD (tN v2) dF) (W (((v1.set (tN v2) 1).getD (tN (a0.2.getD (tN v2) dF).2.2.1) dF)+1)))).getD (tN v2) dF) (W ((((v1.set (tN v2) 1).set (tN v2) (bX ((v1.set (tN v2) 1).getD (tN v2) dF) (W (((v1.set (tN v2) 1).getD (tN (a0.2.getD (tN v2) dF).2.2.1) dF)+1)))).getD (tN (a0.2.getD (tN v2) dF).2.2.2.1) dF)+1))))]) (v1.length) (W (v2 - 1))) ?_;have z0:(splice (splice (splice (flat c3 v1) (0+tN v2*1) [(iv 1)]) (0+tN v2*1) [(iv (bX ((v1.set (tN v2) 1).getD (tN v2) dF) (W (((v1.set (tN v2) 1).getD (tN (a0.2.getD (tN v2) dF).2.2.1) dF)+1))))]) (0+tN v2*1) [(iv (bX (((v1.set (tN v2) 1).set (tN v2) (bX ((v1.set (tN v2) 1).getD (tN v2) dF) (W (((v1.set (tN v2) 1).getD (tN (a0.2.getD (tN v2) dF).2.2.1) dF)+1)))).getD (tN v2) dF) (W ((((v1.set (tN v2) 1).set (tN v2) (bX ((v1.set (tN v2) 1).getD (tN v2) dF) (W (((v1.set (tN v2) 1).getD (tN (a0.2.getD (tN v2) dF).2.2.1) dF)+1)))).getD (tN (a0.2.getD (tN v2) dF).2.2.2.1) dF)+1))))])=flat c3 (((v1.set (tN v2) 1).set (tN v2) (bX ((v1.set (tN v2) 1).getD (tN v2) dF) (W (((v1.set (tN v2) 1).getD (tN (a0.2.getD (tN v2) dF).2.2.1) dF)+1)))).set (tN v2) (bX (((v1.set (tN v2) 1).set (tN v2) (bX ((v1.set (tN v2) 1).getD (tN v2) dF) (W (((v1.set (tN v2) 1).getD (tN (a0.2.getD (tN v2) dF).2.2.1) dF)+1)))).getD (tN v2) dF) (W ((((v1.set (tN v2) 1).set (tN v2) (bX ((v1.set (tN v2) 1).getD (tN v2) dF) (W (((v1.set (tN v2) 1).getD (tN (a0.2.getD (tN v2) dF).2.2.1) dF)+1)))).getD (tN (a0.2.getD (tN v2) dF).2.2.2.1) dF)+1)))):=(by rw [show(splice (splice (flat c3 v1) (0+tN v2*1) [(iv 1)]) (0+tN v2*1) [(iv (bX ((v1.set (tN v2) 1).getD (tN v2) dF) (W (((v1.set (tN v2) 1).getD (tN (a0.2.getD (tN v2) dF).2.2.1) dF)+1))))])=flat c3 ((v1.set (tN v2) 1).set (tN v2) (bX ((v1.set (tN v2) 1).getD (tN v2) dF) (W (((v1.set (tN v2) 1).getD (tN (a0.2.getD (tN v2) dF).2.2.1) dF)+1)))) from(by rw [show(splice (flat c3 v1) (0+tN v2*1) [(iv 1)])=flat c3 (v1.set (tN v2) 1) from(bT aB (by first | omega | (simp only [Lt];omega)) (o:=0) (d:=dF) (Nb rfl) rfl)];exact bT aB (by first | omega | (simp only [Lt];omega)) (o:=0) (d:=dF) (Nb rfl) rfl)];exact bT aB (by first | omega | (simp only [Lt];omega)) (o:=0) (d:=dF) (Nb rfl) rfl);have z1:v1.length=(((v1.set (tN v2) 1).set (tN v2) (bX ((v1.set (tN v2) 1).getD (tN v2) dF) (W (((v1.set (tN v2) 1).getD (tN (a0.2.getD (tN v2) dF).2.2.1) dF)+1)))).set (tN v2) (bX (((v1.set (tN v2) 1).set (tN v2) (bX ((v1.set (tN v2) 1).getD (tN v2) dF) (W (((v1.set (tN v2) 1).getD (tN (a0.2.getD (tN v2) dF).2.2.1) dF)+1)))).getD (tN v2) dF) (W ((((v1.set (tN v2) 1).set (tN v2) (bX ((v1.set (tN v2) 1).getD (tN v2) dF) (W (((v1.set (tN v2) 1).getD (tN (a0.2.getD (tN v2) dF).2.2.1) dF)+1)))).getD (tN (a0.2.getD (tN v2) dF).2.2.2.1) dF)+1)))).length:=by simp
      rw [z0,z1];exact ih _ _ (by refine⟨?_,?_,?_⟩<;>(try simp only [Ls])<;>first | omega | assumption | simp) (by omega)
     have q4:=dO h4;have e:=Eq.refl (jA a0 (v1,v2));(conv at e=>rhs;simp only [jA,h0,h1,h2,h3,h4,aQ]);rw [aD e];refine bA n (t4++[.d h4,.u 0,.F]) [1,3,4] [2,3] hcx sL (pA a0 (splice (splice (flat c3 v1) (0+tN v2*1) [(iv 1)]) (0+tN v2*1) [(iv (bX ((v1.set (tN v2) 1).getD (tN v2) dF) (W (((v1.set (tN v2) 1).getD (tN (a0.2.getD (tN v2) dF).2.2.1) dF)+1))))]) (v1.length) (W (v2 - 1))) ?_;have z0:(splice (splice (flat c3 v1) (0+tN v2*1) [(iv 1)]) (0+tN v2*1) [(iv (bX ((v1.set (tN v2) 1).getD (tN v2) dF) (W (((v1.set (tN v2) 1).getD (tN (a0.2.getD (tN v2) dF).2.2.1) dF)+1))))])=flat c3 ((v1.set (tN v2) 1).set (tN v2) (bX ((v1.set (tN v2) 1).getD (tN v2) dF) (W (((v1.set (tN v2) 1).getD (tN (a0.2.getD (tN v2) dF).2.2.1) dF)+1)))):=(by rw [show(splice (flat c3 v1) (0+tN v2*1) [(iv 1)])=flat c3 (v1.set (tN v2) 1) from(bT aB (by first | omega | (simp only [Lt];omega)) (o:=0) (d:=dF) (Nb rfl) rfl)];exact bT aB (by first | omega | (simp only [Lt];omega)) (o:=0) (d:=dF) (Nb rfl) rfl);have z1:v1.length=((v1.set (tN v2) 1).set (tN v2) (bX ((v1.set (tN v2) 1).getD (tN v2) dF) (W (((v1.set (tN v2) 1).getD (tN (a0.2.getD (tN v2) dF).2.2.1) dF)+1)))).length:=by simp
     rw [z0,z1];exact ih _ _ (by refine⟨?_,?_,?_⟩<;>(try simp only [Ls])<;>first | omega | assumption | simp) (by omega)
    have q3:=dO h3;have e:=Eq.refl (jA a0 (v1,v2));(conv at e=>rhs;simp only [jA,h0,h1,h2,h3,aQ]);rw [aD e];refine bA n (t3++[.d h3,.u 0,.F]) [1,3,4] [2,3] hcx sL (pA a0 (splice (splice (flat c3 v1) (0+tN v2*1) [(iv 1)]) (0+tN v2*1) [(iv (bX ((v1.set (tN v2) 1).getD (tN v2) dF) (W (((v1.set (tN v2) 1).getD (tN (a0.2.getD (tN v2) dF).2.2.1) dF)+1))))]) (v1.length) (W (v2 - 1))) ?_;have z0:(splice (splice (flat c3 v1) (0+tN v2*1) [(iv 1)]) (0+tN v2*1) [(iv (bX ((v1.set (tN v2) 1).getD (tN v2) dF) (W (((v1.set (tN v2) 1).getD (tN (a0.2.getD (tN v2) dF).2.2.1) dF)+1))))])=flat c3 ((v1.set (tN v2) 1).set (tN v2) (bX ((v1.set (tN v2) 1).getD (tN v2) dF) (W (((v1.set (tN v2) 1).getD (tN (a0.2.getD (tN v2) dF).2.2.1) dF)+1)))):=(by rw [show(splice (flat c3 v1) (0+tN v2*1) [(iv 1)])=flat c3 (v1.set (tN v2) 1) from(bT aB (by first | omega | (simp only [Lt];omega)) (o:=0) (d:=dF) (Nb rfl) rfl)];exact bT aB (by first | omega | (simp only [Lt];omega)) (o:=0) (d:=dF) (Nb rfl) rfl);have z1:v1.length=((v1.set (tN v2) 1).set (tN v2) (bX ((v1.set (tN v2) 1).getD (tN v2) dF) (W (((v1.set (tN v2) 1).getD (tN (a0.2.getD (tN v2) dF).2.2.1) dF)+1)))).length:=by simp
    rw [z0,z1];exact ih _ _ (by refine⟨?_,?_,?_⟩<;>(try simp only [Ls])<;>first | omega | assumption | simp) (by omega)
   have q2:=dO h2;let t3:SL:=t2++[.d h2,.u 0,.T,.i 1 2];cases h3:(decide (((a0.2.getD (tN v2) dF).2.2.2.1:Int) > v2))
   case true=>
    have q3:=dE h3;let t4:SL:=t3++[.d h3];cases h4:(decide (((a0.2.getD (tN v2) dF).2.2.2.1:Int) < (v1.length:Int)))
    case true=>
     have q4:=dE h4;have e:=Eq.refl (jA a0 (v1,v2));(conv at e=>rhs;simp only [jA,h0,h1,h2,h3,h4,aQ]);rw [aD e];refine bA n (t4++[.d h4,.i v2 (v1.length),.R aB (v1.set (tN v2) 1) v2 0 1 (show(splice (flat c3 v1) (0+tN v2*1) [(iv 1)])=flat c3 (v1.set (tN v2) 1) from(bT aB (by first | omega | (simp only [Lt];omega)) (o:=0) (d:=dF) (Nb rfl) rfl)),.i ((a0.2.getD (tN v2) dF).2.2.2.1) (v1.length),.R aB (v1.set (tN v2) 1) (a0.2.getD (tN v2) dF).2.2.2.1 0 1 (show(splice (flat c3 v1) (0+tN v2*1) [(iv 1)])=flat c3 (v1.set (tN v2) 1) from(bT aB (by first | omega | (simp only [Lt];omega)) (o:=0) (d:=dF) (Nb rfl) rfl)),.i v2 (v1.length),.p (show((0+tN v2*1)+1<=(splice (flat c3 v1) (0+tN v2*1) [(iv 1)]).length) from(by rw [show(splice (flat c3 v1) (0+tN v2*1) [(iv 1)])=flat c3 (v1.set (tN v2) 1) from(bT aB (by first | omega | (simp only [Lt];omega)) (o:=0) (d:=dF) (Nb rfl) rfl)];exact iS aB (by first | omega | (simp only [Lt];omega)) (o:=0) (Nb rfl))),.u 0,.F]) [1,3,4] [2,3] hcx sL (pA a0 (splice (splice (flat c3 v1) (0+tN v2*1) [(iv 1)]) (0+tN v2*1) [(iv (bX ((v1.set (tN v2) 1).getD (tN v2) dF) (W (((v1.set (tN v2) 1).getD (tN (a0.2.getD (tN v2) dF).2.2.2.1) dF)+1))))]) (v1.length) (W (v2 - 1))) ?_;have z0:(splice (splice (flat c3 v1) (0+tN v2*1) [(iv 1)]) (0+tN v2*1) [(iv (bX ((v1.set (tN v2) 1).getD (tN v2) dF) (W (((v1.set (tN v2) 1).getD (tN (a0.2.getD (tN v2) dF).2.2.2.1) dF)+1))))])=flat c3 ((v1.set (tN v2) 1).set (tN v2) (bX ((v1.set (tN v2) 1).getD (tN v2) dF) (W (((v1.set (tN v2) 1).getD (tN (a0.2.getD (tN v2) dF).2.2.2.1) dF)+1)))):=(by rw [show(splice (flat c3 v1) (0+tN v2*1) [(iv 1)])=flat c3 (v1.set (tN v2) 1) from(bT aB (by first | omega | (simp only [Lt];omega)) (o:=0) (d:=dF) (Nb rfl) rfl)];exact bT aB (by first | omega | (simp only [Lt];omega)) (o:=0) (d:=dF) (Nb rfl) rfl);have z1:v1.length=((v1.set (tN v2) 1).set (tN v2) (bX ((v1.set (tN v2) 1).getD (tN v2) dF) (W (((v1.set (tN v2) 1).getD (tN (a0.2.getD (tN v2) dF).2.2.2.1) dF)+1)))).length:=by simp
     rw [z0,z1];exact ih _ _ (by refine⟨?_,?_,?_⟩<;>(try simp only [Ls])<;>first | omega | assumption | simp) (by omega)
    have q4:=dO h4;have e:=Eq.refl (jA a0 (v1,v2));(conv at e=>rhs;simp only [jA,h0,h1,h2,h3,h4,aQ]);rw [aD e];refine bA n (t4++[.d h4,.u 0,.F]) [1,3,4] [2,3] hcx sL (pA a0 (splice (flat c3 v1) (0+tN v2*1) [(iv 1)]) (v1.length) (W (v2 - 1))) ?_;have z0:(splice (flat c3 v1) (0+tN v2*1) [(iv 1)])=flat c3 (v1.set (tN v2) 1):=(bT aB (by first | omega | (simp only [Lt];omega)) (o:=0) (d:=dF) (Nb rfl) rfl);have z1:v1.length=(v1.set (tN v2) 1).length:=by simp
    rw [z0,z1];exact ih _ _ (by refine⟨?_,?_,?_⟩<;>(try simp only [Ls])<;>first | omega | assumption | simp) (by omega)
   have q3:=dO h3;have e:=Eq.refl (jA a0 (v1,v2));(conv at e=>rhs;simp only [jA,h0,h1,h2,h3,aQ]);rw [aD e];refine bA n (t3++[.d h3,.u 0,.F]) [1,3,4] [2,3] hcx sL (pA a0 (splice (flat c3 v1) (0+tN v2*1) [(iv 1)]) (v1.length) (W (v2 - 1))) ?_;have z0:(splice (flat c3 v1) (0+tN v2*1) [(iv 1)])=flat c3 (v1.set (tN v2) 1):=(bT aB (by first | omega | (simp only [Lt];omega)) (o:=0) (d:=dF) (Nb rfl) rfl);have z1:v1.length=(v1.set (tN v2) 1).length:=by simp
   rw [z0,z1];exact ih _ _ (by refine⟨?_,?_,?_⟩<;>(try simp only [Ls])<;>first | omega | assumption | simp) (by omega)
  have q1:=dO h1;let t2:SL:=t1++[.d h1,.u 0,.T,.i 1 2];cases h2:(decide (((a0.2.getD (tN v2) dF).2.2.2.1:Int) > v2))
  case true=>
   have q2:=dE h2;let t3:SL:=t2++[.d h2];cases h3:(decide (((a0.2.getD (tN v2) dF).2.2.2.1:Int) < (v1.length:Int)))
   case true=>
    have q3:=dE h3;have e:=Eq.refl (jA a0 (v1,v2));(conv at e=>rhs;simp only [jA,h0,h1,h2,h3,aQ]);rw [aD e];refine bA n (t3++[.d h3,.i v2 (v1.length),.R aB (v1.set (tN v2) 1) v2 0 1 (show(splice (flat c3 v1) (0+tN v2*1) [(iv 1)])=flat c3 (v1.set (tN v2) 1) from(bT aB (by first | omega | (simp only [Lt];omega)) (o:=0) (d:=dF) (Nb rfl) rfl)),.i ((a0.2.getD (tN v2) dF).2.2.2.1) (v1.length),.R aB (v1.set (tN v2) 1) (a0.2.getD (tN v2) dF).2.2.2.1 0 1 (show(splice (flat c3 v1) (0+tN v2*1) [(iv 1)])=flat c3 (v1.set (tN v2) 1) from(bT aB (by first | omega | (simp only [Lt];omega)) (o:=0) (d:=dF) (Nb rfl) rfl)),.i v2 (v1.length),.p (show((0+tN v2*1)+1<=(splice (flat c3 v1) (0+tN v2*1) [(iv 1)]).length) from(by rw [show(splice (flat c3 v1) (0+tN v2*1) [(iv 1)])=flat c3 (v1.set (tN v2) 1) from(bT aB (by first | omega | (simp only [Lt];omega)) (o:=0) (d:=dF) (Nb rfl) rfl)];exact iS aB (by first | omega | (simp only [Lt];omega)) (o:=0) (Nb rfl))),.u 0,.F]) [1,3,4] [2,3] hcx sL (pA a0 (splice (splice (flat c3 v1) (0+tN v2*1) [(iv 1)]) (0+tN v2*1) [(iv (bX ((v1.set (tN v2) 1).getD (tN v2) dF) (W (((v1.set (tN v2) 1).getD (tN (a0.2.getD (tN v2) dF).2.2.2.1) dF)+1))))]) (v1.length) (W (v2 - 1))) ?_;have z0:(splice (splice (flat c3 v1) (0+tN v2*1) [(iv 1)]) (0+tN v2*1) [(iv (bX ((v1.set (tN v2) 1).getD (tN v2) dF) (W (((v1.set (tN v2) 1).getD (tN (a0.2.getD (tN v2) dF).2.2.2.1) dF)+1))))])=flat c3 ((v1.set (tN v2) 1).set (tN v2) (bX ((v1.set (tN v2) 1).getD (tN v2) dF) (W (((v1.set (tN v2) 1).getD (tN (a0.2.getD (tN v2) dF).2.2.2.1) dF)+1)))):=(by rw [show(splice (flat c3 v1) (0+tN v2*1) [(iv 1)])=flat c3 (v1.set (tN v2) 1) from(bT aB (by first | omega | (simp only [Lt];omega)) (o:=0) (d:=dF) (Nb rfl) rfl)];exact bT aB (by first | omega | (simp only [Lt];omega)) (o:=0) (d:=dF) (Nb rfl) rfl);have z1:v1.length=((v1.set (tN v2) 1).set (tN v2) (bX ((v1.set (tN v2) 1).getD (tN v2) dF) (W (((v1.set (tN v2) 1).getD (tN (a0.2.getD (tN v2) dF).2.2.2.1) dF)+1)))).length:=by simp
    rw [z0,z1];exact ih _ _ (by refine⟨?_,?_,?_⟩<;>(try simp only [Ls])<;>first | omega | assumption | simp) (by omega)
   have q3:=dO h3;have e:=Eq.refl (jA a0 (v1,v2));(conv at e=>rhs;simp only [jA,h0,h1,h2,h3,aQ]);rw [aD e];refine bA n (t3++[.d h3,.u 0,.F]) [1,3,4] [2,3] hcx sL (pA a0 (splice (flat c3 v1) (0+tN v2*1) [(iv 1)]) (v1.length) (W (v2 - 1))) ?_;have z0:(splice (flat c3 v1) (0+tN v2*1) [(iv 1)])=flat c3 (v1.set (tN v2) 1):=(bT aB (by first | omega | (simp only [Lt];omega)) (o:=0) (d:=dF) (Nb rfl) rfl);have z1:v1.length=(v1.set (tN v2) 1).length:=by simp
   rw [z0,z1];exact ih _ _ (by refine⟨?_,?_,?_⟩<;>(try simp only [Ls])<;>first | omega | assumption | simp) (by omega)
  have q2:=dO h2;have e:=Eq.refl (jA a0 (v1,v2));(conv at e=>rhs;simp only [jA,h0,h1,h2,aQ]);rw [aD e];refine bA n (t2++[.d h2,.u 0,.F]) [1,3,4] [2,3] hcx sL (pA a0 (splice (flat c3 v1) (0+tN v2*1) [(iv 1)]) (v1.length) (W (v2 - 1))) ?_;have z0:(splice (flat c3 v1) (0+tN v2*1) [(iv 1)])=flat c3 (v1.set (tN v2) 1):=(bT aB (by first | omega | (simp only [Lt];omega)) (o:=0) (d:=dF) (Nb rfl) rfl);have z1:v1.length=(v1.set (tN v2) 1).length:=by simp
  rw [z0,z1];exact ih _ _ (by refine⟨?_,?_,?_⟩<;>(try simp only [Ls])<;>first | omega | assumption | simp) (by omega)
 have q0:=dO h0;let t1:SL:=[.d h0];cases h1:(((v1.length:Int):Int) == 0)
 case true=>have q1:=eq_of_beq h1;have e:=Eq.refl (jA a0 (v1,v2));(conv at e=>rhs;simp only [jA,h0,h1,aQ]);rw [aJ,e];exact rT (t1++[.d h1]) hcx
 have q1:=ne_of_beq_false h1;have e:=Eq.refl (jA a0 (v1,v2));(conv at e=>rhs;simp only [jA,h0,h1,aQ]);rw [aJ,e];exact rT (t1++[.d h1,.i 0 (v1.length),.L aB v1 0 0 1]) hcx
def F18 (a0:ZL×eB):Int := (aE (jA a0) (tN ((W ((a0.2.length:Int) - 1))+1)+1) ((List.replicate (tN (a0.2.length:Int)) 0),(W ((a0.2.length:Int) - 1))))
theorem C18 (a0:ZL×eB)(l0_1:a0.1.length<=2^63-1)(l0_2:a0.2.length<=2^63-1)(hl:a0.2.length<=1048576):Con Tryz.prog 18 [(.a [(.s 0 0 a0.1.length 1),(.s 1 0 a0.2.length 8)])] [(.live false true (flat c3 a0.1)),(.live false true (flat fP a0.2))] (iv (F18 a0)) []:=by
 refine cS Tryz.func18 fun cx hcx=>?_
 have hw_i:=aG (n:=(a0.2.length:Int) - 1) (by omega) (by omega);have e:=Eq.refl (F18 a0);(conv at e=>rhs;simp only [F18]);rw [e];refine eN [.Z c3 0 [(iv 0)] (a0.2.length:Int) 8] [1,3,4] [2,3] hcx sL (pA a0 (flat c3 (List.replicate (tN (a0.2.length:Int)) 0)) (tN (a0.2.length:Int)) (W ((a0.2.length:Int) - 1))) (tN ((W ((a0.2.length:Int) - 1))+1)+1) ?_;have q:=bAi a0 l0_1 l0_2 hl hcx (tN ((W ((a0.2.length:Int) - 1))+1)+1) (List.replicate (tN (a0.2.length:Int)) 0) (W ((a0.2.length:Int) - 1)) (by refine⟨?_,?_,?_⟩<;>(try simp only [Ls])<;>first | omega | assumption | simp) (by omega);simp only [List.length_replicate] at q;exact q
end Go.Proofs.YtlffahoikfahlaaGreat
namespace Go.Proofs.YtlffahoikfahlaaGreat
open Go.Proofs Go.Aw Go.RowKit
set_option maxRecDepth 100000
def F7:Bool := (bif (((aA wI 1).2:Int) == 0)then(bif (((((aA wI 1).1.2.length:Nat):Int):Int) == 7)then(bif (((F18 ((aA wI 1).1.1,(aA wI 1).1.2)):Int) == 3)then(bif (((F19 ((aA wI 1).1.1,(aA wI 1).1.2)):Int) == 4)then(bif ((((aA wI 1).1.2.getD (tN 0) dF).2.2.1:Int) == 1)then((((aA wI 1).1.2.getD (tN 0) dF).2.2.2.1:Int) == 4)else false)else false)else false)else false)else false)
theorem C7:Con Tryz.prog 7 [] [] (.v (.bool F7)) []:=by
 refine cS Tryz.func7 fun cx hcx=>?_
 have hrl:wI.length=4:=by kernel_rfl
 have hbl:(aA wI 1).1.2.length=7:=by kernel_rfl
 have hbo:(aA wI 1).1.1.length=4:=by kernel_rfl
 let t0:SL:=[.c [] (C17),.c [0] (aRl wI 1 (by omega))];cases h0:(((aA wI 1).2:Int) == 0)
 case true=>
  have q0:=eq_of_beq h0;let t1:SL:=t0++[.d h0];cases h1:(((((aA wI 1).1.2.length:Nat):Int):Int) == 7)
  case true=>
   have q1:=eq_of_beq h1;let t2:SL:=t1++[.d h1,.c [1,2] (C18 ((aA wI 1).1.1,(aA wI 1).1.2) (by(try simp only [Lt]);omega) (by(try simp only [Lt]);omega) (by(try simp only [Lt]);omega))];cases h2:(((F18 ((aA wI 1).1.1,(aA wI 1).1.2)):Int) == 3)
   case true=>
    have q2:=eq_of_beq h2;let t3:SL:=t2++[.d h2,.c [1,2] (C19 ((aA wI 1).1.1,(aA wI 1).1.2) (by(try simp only [Lt]);omega) (by(try simp only [Lt]);omega) (by(try simp only [Lt]);omega))];cases h3:(((F19 ((aA wI 1).1.1,(aA wI 1).1.2)):Int) == 4)
    case true=>
     have q3:=eq_of_beq h3;let t4:SL:=t3++[.d h3,.i 0 ((aA wI 1).1.2.length),.L hU (aA wI 1).1.2 0 2 1];cases h4:((((aA wI 1).1.2.getD (tN 0) dF).2.2.1:Int) == 1)
     case true=>have q4:=eq_of_beq h4;have e:=Eq.refl F7;(conv at e=>rhs;simp only [F7,h0,h1,h2,h3,h4,aQ]);rw [e];exact rT (t4++[.d h4,.i 0 ((aA wI 1).1.2.length),.L hU (aA wI 1).1.2 0 3 1]) hcx
     have q4:=ne_of_beq_false h4;have e:=Eq.refl F7;(conv at e=>rhs;simp only [F7,h0,h1,h2,h3,h4,aQ]);rw [e];exact rT (t4++[.d h4]) hcx
    have q3:=ne_of_beq_false h3;have e:=Eq.refl F7;(conv at e=>rhs;simp only [F7,h0,h1,h2,h3,aQ]);rw [e];exact rT (t3++[.d h3]) hcx
   have q2:=ne_of_beq_false h2;have e:=Eq.refl F7;(conv at e=>rhs;simp only [F7,h0,h1,h2,aQ]);rw [e];exact rT (t2++[.d h2]) hcx
  have q1:=ne_of_beq_false h1;have e:=Eq.refl F7;(conv at e=>rhs;simp only [F7,h0,h1,aQ]);rw [e];exact rT (t1++[.d h1]) hcx
 have q0:=ne_of_beq_false h0;have e:=Eq.refl F7;(conv at e=>rhs;simp only [F7,h0,aQ]);rw [e];exact rT (t0++[.d h0]) hcx
theorem aRm:F7=true:=by kernel_rfl
theorem aUe (n lo hi:Int):F41 n lo hi=F46 n lo hi:=by
 unfold F41 F46;by_cases h1:lo<=n<;>by_cases h2:n<=hi<;>simp [h1,h2]
theorem rV (l:List (PN×Int)):gL l=oL l:=by
 have e:fX l=aF8 l:=by
  funext v
  simp only [fX,aF8,aT4,bCe,aUe]
 unfold gL oL;rw [e]
theorem aRn {l:List (PN×Int)} (h:oL l=0):l.length<=96:=uK (by rw [rV];exact h)
def gX (a0:Zt)(a1:Int):Int := (bif ((a1:Int) == 0)then a0.1 else(bif ((a1:Int) == 1)then a0.2.1 else a0.2.2))
def lR (a0:(Zt×Zt×Zt)×Int)(a1:Int):Int := (W ((W ((gX a0.1.1 a1)+(gX a0.1.2.1 a1)))+(gX a0.1.2.2 a1)))
def aK1 (a0 a1:Int):Int := (fD (W (a0+a1)) (2 ^ (min (tN 1) 64)))
def fB (a0:cC)(a1:ZL)(a2:Int):Zt->Zt⊕(Int) | (v1,v2,v3) => (bif (decide ((v3:Int) < (a1.length:Int)))then(.inl ((iQ (iQ (iQ v1 (gX (a0.getD (tN (a1.getD (tN v3) dF)) dF).1.1 a2)) (gX (a0.getD (tN (a1.getD (tN v3) dF)) dF).1.2.1 a2)) (gX (a0.getD (tN (a1.getD (tN v3) dF)) dF).1.2.2 a2)),(bX (bX (bX v2 (gX (a0.getD (tN (a1.getD (tN v3) dF)) dF).1.1 a2)) (gX (a0.getD (tN (a1.getD (tN v3) dF)) dF).1.2.1 a2)) (gX (a0.getD (tN (a1.getD (tN v3) dF)) dF).1.2.2 a2)),(v3+1)))else(.inr (aK1 v1 v2)))
def cB (a0:cC)(a1:ZL)(a2:Int):Int := (aE (fB a0 a1 a2) (tN ((a1.length:Int) - 0)+1) (64,(-64),0))
def aOz (a0:cC)(a1:ZL):cC×Int->(cC×Int)⊕cC | (v2,v3) => (bif (decide ((v3:Int) < (a1.length:Int)))then(.inl ((v2++[(a0.getD (tN (a1.getD (tN v3) dF)) dF)]),(v3+1)))else(.inr v2))
def mK (a0:cC)(a1:ZL):cC := (aE (aOz a0 a1) (tN ((a1.length:Int) - 0)+1) (([]:cC),0))
def gO (a0:cC)(a1:ZL):Int×Int×Int×Zt->(Int×Int×Int×Zt)⊕(Zt⊕(Int)) | (v14,v15,v16,v17,v18,v19) => (bif (decide ((v19:Int) < (a1.length:Int)))then(.inl (v14,v15,v16,(iQ v17 (lR (a0.getD (tN (a1.getD (tN v19) dF)) dF) v16)),(bX v18 (lR (a0.getD (tN (a1.getD (tN v19) dF)) dF) v16)),(v19+1)))else(bif (decide (((W (v18 - v17)):Int) > v15))then(.inr (.inl (v16,(W (v18 - v17)),(v16+1))))else(.inr (.inl (v14,v15,(v16+1))))))
def lS (a0:cC)(a1:ZL):Zt->Zt⊕(Int) | (v11,v12,v13) => (bif (decide ((v13:Int) < 3))then(aE (gO a0 a1) (tN ((a1.length:Int) - 1)+1) (v11,v12,v13,(lR (a0.getD (tN (a1.getD (tN 0) dF)) dF) v13),(lR (a0.getD (tN (a1.getD (tN 0) dF)) dF) v13),1))else(.inr v11))
def aV (a0:cC)(a1:ZL):Int := (aE (lS a0 a1) (tN (3 - 0)+1) (0,(-1),0))
def aFg (a0:cC)(a1:Zt):Int := (bif (((oL a0):Int) != 0)then(oL a0)else(bif (!(F59 a1 64))then 1 else 0))
def pT (a0:cC)(a1:Zt):Zs->Zs⊕Zs | (v1,v2) => (bif (decide ((v2:Int) < (a0.length:Int)))then(.inl ((if((if((if(v1:Int) < (uQ (F34 (a0.getD (tN v2) dF).1.1 a1))then(uQ (F34 (a0.getD (tN v2) dF).1.1 a1))else v1):Int) < (uQ (F34 (a0.getD (tN v2) dF).1.2.1 a1))then(uQ (F34 (a0.getD (tN v2) dF).1.2.1 a1))else(if(v1:Int) < (uQ (F34 (a0.getD (tN v2) dF).1.1 a1))then(uQ (F34 (a0.getD (tN v2) dF).1.1 a1))else v1)):Int) < (uQ (F34 (a0.getD (tN v2) dF).1.2.2 a1))then(uQ (F34 (a0.getD (tN v2) dF).1.2.2 a1))else(if((if(v1:Int) < (uQ (F34 (a0.getD (tN v2) dF).1.1 a1))then(uQ (F34 (a0.getD (tN v2) dF).1.1 a1))else v1):Int) < (uQ (F34 (a0.getD (tN v2) dF).1.2.1 a1))then(uQ (F34 (a0.getD (tN v2) dF).1.2.1 a1))else(if(v1:Int) < (uQ (F34 (a0.getD (tN v2) dF).1.1 a1))then(uQ (F34 (a0.getD (tN v2) dF).1.1 a1))else v1))),(v2+1)))else(.inr (v1,0)))
def vJ (a0:cC)(a1:Zt):Zs := (bif (((aFg a0 a1):Int) != 0)then(0,(aFg a0 a1))else(aE (pT a0 a1) (tN ((a0.length:Int) - 0)+1) (0,0)))
def nY (a0:cC)(a1:ZL)(a2:Int):ZL×Int×Int->(ZL×Int×Int)⊕((ZL×Int)⊕ZL) | (v5,v6,v7) => (bif (decide ((v7:Int) > 0))then(bif (decide (((lR (a0.getD (tN (v5.getD (tN v7) dF)) dF) a2):Int) < (lR (a0.getD (tN (v5.getD (tN (W (v7 - 1))) dF)) dF) a2)))then(.inl (((v5.set (tN v7) (v5.getD (tN (W (v7 - 1))) dF)).set (tN (W (v7 - 1))) (v5.getD (tN v7) dF)),v6,(W (v7 - 1))))else(bif (((lR (a0.getD (tN (v5.getD (tN v7) dF)) dF) a2):Int) == (lR (a0.getD (tN (v5.getD (tN (W (v7 - 1))) dF)) dF) a2))then(bif (decide (((v5.getD (tN v7) dF):Int) < (v5.getD (tN (W (v7 - 1))) dF)))then(.inl (((v5.set (tN v7) (v5.getD (tN (W (v7 - 1))) dF)).set (tN (W (v7 - 1))) (v5.getD (tN v7) dF)),v6,(W (v7 - 1))))else(.inr (.inl (v5,(v6+1)))))else(.inr (.inl (v5,(v6+1))))))else(.inr (.inl (v5,(v6+1)))))
def rE (a0:cC)(a1:ZL)(a2:Int):ZL×Int->(ZL×Int)⊕ZL | (v3,v4) => (bif (decide ((v4:Int) < (v3.length:Int)))then(aE (nY a0 a1 a2) (tN v4+1) (v3,v4,v4))else(.inr v3))
def bY (a0:cC)(a1:ZL)(a2:Int):ZL := (aE (rE a0 a1 a2) (tN ((((([]:ZL)++a1).length:Nat):Int) - 1)+1) ((([]:ZL)++a1),1))
abbrev TR:=ZL×eB
abbrev fV:=cC
structure PGRW (l:fV) (t:TR) (ns:ZL) (leaf:Int):Prop where
 inr:InR l.length ns
 rng:1<=ns.length/\t.1.length+ns.length<=1048576
 nds:t.2.length+2*ns.length<=4194304
 lf:1<=leaf
def cOf (l:fV)(k:Int):sH:=((l,0,[],[]),k)
theorem aGn (l:fV)(k:Int)(x:Int):lR (l.getD (tN x) dF) k=kk (cOf l k) x:=by
 unfold kk cOf lR kJ gX;cases h0:(k == 0)
 case true=>rfl
 cases h1:(k == 1)
 case true=>rfl
 rfl
theorem aRo (l:fV)(k x y:Int):(decide (lR (l.getD (tN x) dF) k < lR (l.getD (tN y) dF) k) || ((lR (l.getD (tN x) dF) k == lR (l.getD (tN y) dF) k)&&decide (x < y)))=bM (cOf l k) x y:=by
 rw [aGn,aGn];cases h:bM (cOf l k) x y
 case true=>rw [aGj] at h;simp;exact h
 rw [aM9] at h;simp;omega
section
open Go.Sort
variable {l : fV} {ns : ZL} {k : Int}
theorem aNc {n:Nat} (hn:n<=1048576)(hns:ns.length=n):∀(m:Nat) (d:Array Int) (j:Nat) (w:Int),d.size=n->j < n->j < m ->
 aE (nY l ns k) m (wp ns 0 d,w,(j:Int))=.inl (wp ns 0 (insInner (bM (cOf l k)) 0 j d),w+1)
 | 0,_,_,_,_,_,h=>absurd h (fW _)
 | m+1,d,0,w,hd,hj,hm=>by
  refine aM ?_;simp only [nY];rw [cV (by omega),cond_false];rfl
 | m+1,d,j+1,w,hd,hj,hm=>by
  have hl':0+d.size<=ns.length:=by omega
  have e1:W (((j+1:Nat):Int) - 1)=((j:Nat):Int):=wN (by omega) (by omega);have g1:=cZ hl' (i:=j+1) (by omega);have g0:=cZ hl' (i:=j) (by omega);have gs:=gW hl' (i:=j+1) (j:=j) (by omega) (by omega);rw [Nat.zero_add] at g1 g0;rw [Nat.zero_add,Nat.zero_add] at gs;rw [insInner,cL (show j+1 > 0 by omega),Bool.true_and];have e:nY l ns k (wp ns 0 d,w,((j+1:Nat):Int))=bif bM (cOf l k) d[j+1]! d[j]! then .inl (wp ns 0 (swp d (j+1) j),w,(j:Int)) else .inr (.inl (wp ns 0 d,w+1)):=by
   rw [←aRo];simp only [nY,e1,iH];rw [cL (show((j+1:Nat):Int) > 0 by omega),cond_true,gs,g1,g0];cases decide (lR (l.getD (tN d[j+1]!) dF) k < lR (l.getD (tN d[j]!) dF) k)
   case true=>rfl
   cases (lR (l.getD (tN d[j+1]!) dF) k == lR (l.getD (tN d[j]!) dF) k)
   case false=>rfl
   cases decide (d[j+1]! < d[j]!)<;>rfl
  cases q:bM (cOf l k) d[j+1]! d[j]!
  case true=>rw [q,cond_true] at e;rw [aD e];exact aNc hn hns m _ j w (by rw [Go.Sort.size_swp];exact hd) (by omega) (by omega)
  rw [q,cond_false] at e;exact aM e
theorem aNd {n:Nat} (hn:n<=1048576)(hns:ns.length=n):∀(m:Nat) (d:Array Int) (i:Nat),d.size=n->n - i < m ->
 aE (rE l ns k) m (wp ns 0 d,(i:Int))=wp ns 0 (insOuter (bM (cOf l k)) 0 n i d)
 | 0,_,_,_,h=>absurd h (fW _)
 | m+1,d,i,hd,hm=>by
  rw [insOuter];have hlen:(wp ns 0 d).length=n:=by rw [aC0 (by omega),hns]
  by_cases h1:i < n
  ·rw [if_pos h1];have e:rE l ns k (wp ns 0 d,(i:Int))=aE (nY l ns k) (tN (i:Int)+1) (wp ns 0 d,(i:Int),(i:Int)):=by
    simp only [rE];rw [cL (by omega),cond_true]
   rw [aD (e.trans (aNc hn hns _ d i _ hd (by omega) (by omega)))];exact aNd hn hns m _ (i+1) (by rw [qH];exact hd) (by omega)
  ·rw [if_neg h1];refine aM ?_;simp only [rE];rw [cV (by omega),cond_false]
def qL (l:fV)(k:Int)(ns:ZL):ZL:=ns.mergeSort (fun x y=>!bM (cOf l k) y x)
theorem nR (l:fV)(k:Int)(ns:ZL):(qL l k ns).length=ns.length:=(List.mergeSort_perm ns _).length_eq
theorem aUf {N:Nat} (h:InR N ns):InR N (qL l k ns):=fun x hx=>h x ((List.mergeSort_perm ns _).mem_iff.1 hx)
theorem aRp {n:Nat} (h:ns.length=n) {d:Array Int} (hd:d.size=n):wp ns 0 d=d.toList:=by unfold wp;rw [Nat.zero_add,hd,←h,List.drop_length];simp
theorem aUg (c:sH):bM c=bM (cOf c.1.1 c.2):=rfl
theorem aJh {c:sH} {d d':Array Int} (h1:PermIn 0 d.size d d')(h2:SortedIn (bM c) 0 d.size d'):d'.toList=qL c.1.1 c.2 d.toList:=by
 unfold qL;rw [←aUg];exact sorted_unique_holds (lt:=bM c) (nQ c) (aUc c) d d' h1 h2
theorem aRq (h:ns.length<=1048576):bY l ns k=qL l k ns:=by
 unfold bY;have hz:(ns.toArray).size=ns.length:=by simp
 have hw:wp ns 0 ns.toArray=ns:=by rw [aRp rfl hz]
 have h1:=insertionSort_holds (lt:=bM (cOf l k)) (nQ _) ns.toArray 0 ns.length (Nat.zero_le _) (by rw [hz];exact Nat.le_refl _);have h0:=aNd (l:=l) (k:=k) h rfl (tN ((((([]:ZL)++ns).length:Nat):Int) - 1)+1) ns.toArray 1 hz (by rw [List.nil_append];omega);have e:insOuter (bM (cOf l k)) 0 ns.length 1 ns.toArray=insertionSort (bM (cOf l k)) ns.toArray 0 ns.length:=rfl;rw [hw,e,aRp (n:=ns.length) (d:=insertionSort (bM (cOf l k)) ns.toArray 0 ns.length) rfl (by rw [h1.1.1];exact hz),aJh (c:=cOf l k) (by rw [hz];exact h1.1) (by rw [hz];exact h1.2)] at h0;exact h0
theorem aXy {v:ZL} {o n:Nat} {c:sH} (hw:o+n<=v.length/\v.length<=1048576) :
 gU v o n c=v.take o++qL c.1.1 c.2 ((v.drop o).take n)++v.drop (o+n):=by
 have hz:=fQ hw.1;have hb:bitsLen n<=1048576:=Nat.le_trans ((bitsLen_le_iff n 62).2 (by omega)) (by omega);have h:=aRf (l:=v) hw.1 (by omega) (tN (((n:Nat):Int) - 0)+1) ((c.1.1,c.1.2.1,(v,c.1.2.2.2)),c.2) (kV v o n) 0 n (bitsLen n) hz (Nat.zero_le _) (Nat.le_refl _) hb (by omega);have hs:=pdq_sorts (bM ((c.1.1,c.1.2.1,(v,c.1.2.2.2)),c.2)) (nQ _) (kV v o n) 0 n (bitsLen n) true true (Nat.zero_le _) (by rw [hz];exact Nat.le_refl _) (Or.inl rfl);rw [oS hw.1] at h;have e:gU v o n c=aK (tN (((n:Nat):Int) - 0)+1) v o n ((0:Nat):Int) ((n:Nat):Int) ((bitsLen n:Nat):Int) ((c.1.1,c.1.2.1,(v,c.1.2.2.2)),c.2):=by
  unfold gU pR aI8;rw [show iW .u64 ((n:Nat):Int)=n by rw [IntKind.wrap_u64];omega,iH,bitLen_eq _ (by omega)];rfl
 rw [e,h.1];unfold wp;rw [h.2,aJh (c:=((c.1.1,c.1.2.1,(v,c.1.2.2.2)),c.2)) (d:=kV v o n) (by rw [hz];exact hs.1) (by rw [hz];exact hs.2)];rfl
end
theorem aDa {n:Nat} (h:n<=1048576):W (tD (W (((n:Nat):Int)+1)) 2)=(((n+1) / 2:Nat):Int):=by
 rw [wN (x:=((n:Nat):Int)+1) (n:=n+1) (by omega) (by omega),Int.tdiv_eq_ediv_of_nonneg (by omega)];exact wN (by omega) (by omega)
end Go.Proofs.YtlffahoikfahlaaGreat
namespace Go.Proofs.YtlffahoikfahlaaGreat
open Go.Proofs Go.Aw Go.RowKit
set_option maxRecDepth 100000
structure GRR (t r:TR) (ns:ZL):Prop where
 ol:r.1.length=t.1.length+ns.length
 lo:t.2.length < r.2.length
 hi:r.2.length<=t.2.length+2*ns.length - 1
section
variable {l : fV} {t : TR} {ns : ZL} {leaf : Int} {x : Int × Int × Int × Int × Zt × Int}
theorem aDb (hp:PGRW l t ns leaf)(k:Int):(bY l ns k).length=ns.length/\InR l.length (bY l ns k):=by
 rw [aRq (by have:=hp.rng;omega)];exact⟨nR _ _ _,aUf hp.inr⟩
theorem vK (hp:PGRW l t ns leaf)(k:Int)(h2:2<=ns.length):PGRW l (t.1,t.2++[x]) (Aw.part (bY l ns k) 0 (W (tD (W ((((bY l ns k).length:Nat):Int)+1)) 2))) leaf:=by
 have hs:=aDb hp k;have h:=hp.rng;have hn:=hp.nds;rw [aDa (by omega),hs.1];have hpt:=cD (l:=bY l ns k) (a:=0) (b:=(((ns.length+1) / 2:Nat):Int)) (by omega);refine⟨hs.2.part _ _,⟨by rw [hpt];omega,?_⟩,?_,hp.lf⟩
 ·rw [hpt];dsimp only;omega
 ·rw [hpt];simp only [List.length_append,List.length_cons,List.length_nil];omega
theorem aJi {r:TR} (hp:PGRW l t ns leaf)(k:Int)(h2:2<=ns.length)(hr:GRR (t.1,t.2++[x]) r (Aw.part (bY l ns k) 0 (W (tD (W ((((bY l ns k).length:Nat):Int)+1)) 2)))) :
 PGRW l (r.1,r.2) (Aw.part (bY l ns k) (W (tD (W ((((bY l ns k).length:Nat):Int)+1)) 2)) (((bY l ns k).length:Nat):Int)) leaf:=by
 have hs:=aDb hp k;have h:=hp.rng;have hn:=hp.nds;obtain⟨g1,g2,g3⟩:=hr;rw [aDa (by omega),hs.1] at g1 g3 ⊢;have hpt1:=cD (l:=bY l ns k) (a:=0) (b:=(((ns.length+1) / 2:Nat):Int)) (by omega);have hpt2:=cD (l:=bY l ns k) (a:=(((ns.length+1) / 2:Nat):Int)) (b:=(ns.length:Int)) (by omega);rw [hpt1] at g1 g3;simp only [List.length_append,List.length_cons,List.length_nil] at g1 g2 g3;refine⟨hs.2.part _ _,⟨by rw [hpt2];omega,?_⟩,?_,hp.lf⟩
 ·rw [hpt2];dsimp only;omega
 ·rw [hpt2];dsimp only;omega
end
def vL (a0:cC)(a1:ZL×eB)(a2:ZL)(a3:Int):=(vJ (mK a0 a2) ((cB a0 a2 0),(cB a0 a2 1),(cB a0 a2 2)))
def cU (rr:cC->(ZL×eB)->ZL->(Int)->ZL×eB)(a0:cC)(a1:ZL×eB)(a2:ZL)(a3:Int):=(rr a0 (a1.1,(a1.2++[((a1.1.length:Int),(W ((a1.1.length:Int)+(a2.length:Int))),(-1),(-1),((cB a0 a2 0),(cB a0 a2 1),(cB a0 a2 2)),(vL a0 a1 a2 a3).1)])) (Aw.part (bY a0 a2 (aV a0 a2)) 0 (W (tD (W ((((bY a0 a2 (aV a0 a2)).length:Nat):Int)+1)) 2))) a3)
def aL (rr:cC->(ZL×eB)->ZL->(Int)->ZL×eB)(a0:cC)(a1:ZL×eB)(a2:ZL)(a3:Int):=(rr a0 ((cU (rr) a0 a1 a2 a3).1,(cU (rr) a0 a1 a2 a3).2) (Aw.part (bY a0 a2 (aV a0 a2)) (W (tD (W ((((bY a0 a2 (aV a0 a2)).length:Nat):Int)+1)) 2)) (((bY a0 a2 (aV a0 a2)).length:Nat):Int)) a3)
def aH:Nat->cC->(ZL×eB)->ZL->(Int)->ZL×eB | 0,_,_,_,_=>dF | nr+1,a0,a1,a2,a3 => (bif (decide (((a2.length:Int):Int)<=a3))then((a1.1++a2),(a1.2++[((a1.1.length:Int),(W ((a1.1.length:Int)+(a2.length:Int))),(-1),(-1),((cB a0 a2 0),(cB a0 a2 1),(cB a0 a2 2)),(vL a0 a1 a2 a3).1)]))else((aL (aH nr) a0 a1 a2 a3).1,(((aL (aH nr) a0 a1 a2 a3).2.set (tN (a1.2.length:Int)) (((aL (aH nr) a0 a1 a2 a3).2.getD (tN (a1.2.length:Int)) dF).1,((aL (aH nr) a0 a1 a2 a3).2.getD (tN (a1.2.length:Int)) dF).2.1,(((a1.2.length+1):Nat):Int),((aL (aH nr) a0 a1 a2 a3).2.getD (tN (a1.2.length:Int)) dF).2.2.2.1,((aL (aH nr) a0 a1 a2 a3).2.getD (tN (a1.2.length:Int)) dF).2.2.2.2.1,((aL (aH nr) a0 a1 a2 a3).2.getD (tN (a1.2.length:Int)) dF).2.2.2.2.2)).set (tN (a1.2.length:Int)) ((((aL (aH nr) a0 a1 a2 a3).2.set (tN (a1.2.length:Int)) (((aL (aH nr) a0 a1 a2 a3).2.getD (tN (a1.2.length:Int)) dF).1,((aL (aH nr) a0 a1 a2 a3).2.getD (tN (a1.2.length:Int)) dF).2.1,(((a1.2.length+1):Nat):Int),((aL (aH nr) a0 a1 a2 a3).2.getD (tN (a1.2.length:Int)) dF).2.2.2.1,((aL (aH nr) a0 a1 a2 a3).2.getD (tN (a1.2.length:Int)) dF).2.2.2.2.1,((aL (aH nr) a0 a1 a2 a3).2.getD (tN (a1.2.length:Int)) dF).2.2.2.2.2)).getD (tN (a1.2.length:Int)) dF).1,(((aL (aH nr) a0 a1 a2 a3).2.set (tN (a1.2.length:Int)) (((aL (aH nr) a0 a1 a2 a3).2.getD (tN (a1.2.length:Int)) dF).1,((aL (aH nr) a0 a1 a2 a3).2.getD (tN (a1.2.length:Int)) dF).2.1,(((a1.2.length+1):Nat):Int),((aL (aH nr) a0 a1 a2 a3).2.getD (tN (a1.2.length:Int)) dF).2.2.2.1,((aL (aH nr) a0 a1 a2 a3).2.getD (tN (a1.2.length:Int)) dF).2.2.2.2.1,((aL (aH nr) a0 a1 a2 a3).2.getD (tN (a1.2.length:Int)) dF).2.2.2.2.2)).getD (tN (a1.2.length:Int)) dF).2.1,(((aL (aH nr) a0 a1 a2 a3).2.set (tN (a1.2.length:Int)) (((aL (aH nr) a0 a1 a2 a3).2.getD (tN (a1.2.length:Int)) dF).1,((aL (aH nr) a0 a1 a2 a3).2.getD (tN (a1.2.length:Int)) dF).2.1,(((a1.2.length+1):Nat):Int),((aL (aH nr) a0 a1 a2 a3).2.getD (tN (a1.2.length:Int)) dF).2.2.2.1,((aL (aH nr) a0 a1 a2 a3).2.getD (tN (a1.2.length:Int)) dF).2.2.2.2.1,((aL (aH nr) a0 a1 a2 a3).2.getD (tN (a1.2.length:Int)) dF).2.2.2.2.2)).getD (tN (a1.2.length:Int)) dF).2.2.1,(((cU (aH nr) a0 a1 a2 a3).2.length:Nat):Int),(((aL (aH nr) a0 a1 a2 a3).2.set (tN (a1.2.length:Int)) (((aL (aH nr) a0 a1 a2 a3).2.getD (tN (a1.2.length:Int)) dF).1,((aL (aH nr) a0 a1 a2 a3).2.getD (tN (a1.2.length:Int)) dF).2.1,(((a1.2.length+1):Nat):Int),((aL (aH nr) a0 a1 a2 a3).2.getD (tN (a1.2.length:Int)) dF).2.2.2.1,((aL (aH nr) a0 a1 a2 a3).2.getD (tN (a1.2.length:Int)) dF).2.2.2.2.1,((aL (aH nr) a0 a1 a2 a3).2.getD (tN (a1.2.length:Int)) dF).2.2.2.2.2)).getD (tN (a1.2.length:Int)) dF).2.2.2.2.1,(((aL (aH nr) a0 a1 a2 a3).2.set (tN (a1.2.length:Int)) (((aL (aH nr) a0 a1 a2 a3).2.getD (tN (a1.2.length:Int)) dF).1,((aL (aH nr) a0 a1 a2 a3).2.getD (tN (a1.2.length:Int)) dF).2.1,(((a1.2.length+1):Nat):Int),((aL (aH nr) a0 a1 a2 a3).2.getD (tN (a1.2.length:Int)) dF).2.2.2.1,((aL (aH nr) a0 a1 a2 a3).2.getD (tN (a1.2.length:Int)) dF).2.2.2.2.1,((aL (aH nr) a0 a1 a2 a3).2.getD (tN (a1.2.length:Int)) dF).2.2.2.2.2)).getD (tN (a1.2.length:Int)) dF).2.2.2.2.2))))
def jJ (a0:cC)(a1:ZL×eB)(a2:ZL)(a3:Int):ZL×eB:=aH (a2.length+1) a0 a1 a2 a3
theorem uL:∀(nr:Nat) (l:fV) (t:TR) (ns:ZL) (leaf:Int),PGRW l t ns leaf->ns.length < nr->GRR t (aH nr l t ns leaf) ns
 | 0,_,_,_,_,_,h=>absurd h (fW _)
 | nr+1,l,t,ns,leaf,hp,hn=>by
  have h:=hp.rng;have hl:=hp.lf;simp only [aH];by_cases h0:(ns.length:Int)<=leaf
  ·rw [cL h0,cond_true];exact⟨by simp,by simp,by simp;omega⟩
  ·rw [cV h0,cond_false];have h2:2<=ns.length:=by omega
   have hs:=aDb hp (aV l ns);have hf:=aDa (n:=ns.length) (by omega);have hpt1:=cD (l:=bY l ns (aV l ns)) (a:=0) (b:=(((ns.length+1) / 2:Nat):Int)) (by omega);have hpt2:=cD (l:=bY l ns (aV l ns)) (a:=(((ns.length+1) / 2:Nat):Int)) (b:=(ns.length:Int)) (by omega);have h5:GRR _ (cU (aH nr) l t ns leaf) _:=uL nr _ _ _ _ (vK hp _ h2) (by rw [hs.1,hf,hpt1];omega);have h6:GRR _ (aL (aH nr) l t ns leaf) _:=uL nr _ _ _ _ (aJi hp _ h2 h5) (by rw [hs.1,hf,hpt2];omega);obtain⟨g1,g2,g3⟩:=h5;obtain⟨f1,f2,f3⟩:=h6;rw [hs.1,hf,hpt1] at g1 g3;rw [hs.1,hf,hpt2] at f1 f3;dsimp only at g1 g2 g3 f1 f2 f3;simp only [List.length_append,List.length_cons,List.length_nil] at g1 g2 g3;exact⟨by dsimp only;omega,by simp only [List.length_set];omega,by simp only [List.length_set];omega⟩
end Go.Proofs.YtlffahoikfahlaaGreat
namespace Go.Proofs.YtlffahoikfahlaaGreat
open Go.Proofs Go.Aw Go.RowKit
set_option maxRecDepth 100000
theorem tQ:∀(n1 n2:Nat) (l:fV) (t:TR) (ns:ZL) (leaf:Int),PGRW l t ns leaf->ns.length < n1->ns.length < n2->aH n1 l t ns leaf=aH n2 l t ns leaf
 | 0,_,_,_,_,_,_,h,_=>absurd h (fW _)
 | _+1,0,_,_,_,_,_,_,h=>absurd h (fW _)
 | n1+1,n2+1,l,t,ns,leaf,hp,h1,h2=>by
  have h:=hp.rng;have hl:=hp.lf;simp only [aH];by_cases h0:(ns.length:Int)<=leaf
  ·rw [cL h0];rfl
  ·rw [cV h0,cond_false,cond_false];have g2:2<=ns.length:=by omega
   have hs:=aDb hp (aV l ns);have hf:=aDa (n:=ns.length) (by omega);have hpt1:=cD (l:=bY l ns (aV l ns)) (a:=0) (b:=(((ns.length+1) / 2:Nat):Int)) (by omega);have hpt2:=cD (l:=bY l ns (aV l ns)) (a:=(((ns.length+1) / 2:Nat):Int)) (b:=(ns.length:Int)) (by omega);have h5:GRR _ (cU (aH n1) l t ns leaf) _:=uL n1 _ _ _ _ (vK hp _ g2) (by rw [hs.1,hf,hpt1];omega);have e2:cU (aH n1) l t ns leaf=cU (aH n2) l t ns leaf:=tQ n1 n2 _ _ _ _ (vK hp _ g2) (by rw [hs.1,hf,hpt1];omega) (by rw [hs.1,hf,hpt1];omega);have e3:aL (aH n1) l t ns leaf=aL (aH n2) l t ns leaf:=by
    have:=tQ n1 n2 _ _ _ _ (aJi hp _ g2 h5) (by rw [hs.1,hf,hpt2];omega) (by rw [hs.1,hf,hpt2];omega);unfold aL;rw [←e2];exact this
   rw [e3,e2]
def vM (a0:cC)(a1:ZL×eB)(a2:ZL)(a3:Int):=(vJ (mK a0 a2) ((cB a0 a2 0),(cB a0 a2 1),(cB a0 a2 2)))
def mL (rr:cC->(ZL×eB)->ZL->(Int)->ZL×eB)(a0:cC)(a1:ZL×eB)(a2:ZL)(a3:Int):=(rr a0 (([]:ZL),(a1.2++[(0,(W (0+(a2.length:Int))),(-1),(-1),((cB a0 a2 0),(cB a0 a2 1),(cB a0 a2 2)),(vM a0 a1 a2 a3).1)])) (Aw.part (bY a0 a2 (aV a0 a2)) 0 (W (tD (W ((((bY a0 a2 (aV a0 a2)).length:Nat):Int)+1)) 2))) a3)
def aO (rr:cC->(ZL×eB)->ZL->(Int)->ZL×eB)(a0:cC)(a1:ZL×eB)(a2:ZL)(a3:Int):=(jJ a0 ((mL (rr) a0 a1 a2 a3).1,(mL (rr) a0 a1 a2 a3).2) (Aw.part (bY a0 a2 (aV a0 a2)) (W (tD (W ((((bY a0 a2 (aV a0 a2)).length:Nat):Int)+1)) 2)) (((bY a0 a2 (aV a0 a2)).length:Nat):Int)) a3)
def aT:Nat->cC->(ZL×eB)->ZL->(Int)->ZL×eB | 0,_,_,_,_=>dF | nr+1,a0,a1,a2,a3 => (bif (decide (((a2.length:Int):Int)<=a3))then(a2,(a1.2++[(0,(W (0+(a2.length:Int))),(-1),(-1),((cB a0 a2 0),(cB a0 a2 1),(cB a0 a2 2)),(vM a0 a1 a2 a3).1)]))else((aO (aT nr) a0 a1 a2 a3).1,(((aO (aT nr) a0 a1 a2 a3).2.set (tN (a1.2.length:Int)) (((aO (aT nr) a0 a1 a2 a3).2.getD (tN (a1.2.length:Int)) dF).1,((aO (aT nr) a0 a1 a2 a3).2.getD (tN (a1.2.length:Int)) dF).2.1,(((a1.2.length+1):Nat):Int),((aO (aT nr) a0 a1 a2 a3).2.getD (tN (a1.2.length:Int)) dF).2.2.2.1,((aO (aT nr) a0 a1 a2 a3).2.getD (tN (a1.2.length:Int)) dF).2.2.2.2.1,((aO (aT nr) a0 a1 a2 a3).2.getD (tN (a1.2.length:Int)) dF).2.2.2.2.2)).set (tN (a1.2.length:Int)) ((((aO (aT nr) a0 a1 a2 a3).2.set (tN (a1.2.length:Int)) (((aO (aT nr) a0 a1 a2 a3).2.getD (tN (a1.2.length:Int)) dF).1,((aO (aT nr) a0 a1 a2 a3).2.getD (tN (a1.2.length:Int)) dF).2.1,(((a1.2.length+1):Nat):Int),((aO (aT nr) a0 a1 a2 a3).2.getD (tN (a1.2.length:Int)) dF).2.2.2.1,((aO (aT nr) a0 a1 a2 a3).2.getD (tN (a1.2.length:Int)) dF).2.2.2.2.1,((aO (aT nr) a0 a1 a2 a3).2.getD (tN (a1.2.length:Int)) dF).2.2.2.2.2)).getD (tN (a1.2.length:Int)) dF).1,(((aO (aT nr) a0 a1 a2 a3).2.set (tN (a1.2.length:Int)) (((aO (aT nr) a0 a1 a2 a3).2.getD (tN (a1.2.length:Int)) dF).1,((aO (aT nr) a0 a1 a2 a3).2.getD (tN (a1.2.length:Int)) dF).2.1,(((a1.2.length+1):Nat):Int),((aO (aT nr) a0 a1 a2 a3).2.getD (tN (a1.2.length:Int)) dF).2.2.2.1,((aO (aT nr) a0 a1 a2 a3).2.getD (tN (a1.2.length:Int)) dF).2.2.2.2.1,((aO (aT nr) a0 a1 a2 a3).2.getD (tN (a1.2.length:Int)) dF).2.2.2.2.2)).getD (tN (a1.2.length:Int)) dF).2.1,(((aO (aT nr) a0 a1 a2 a3).2.set (tN (a1.2.length:Int)) (((aO (aT nr) a0 a1 a2 a3).2.getD (tN (a1.2.length:Int)) dF).1,((aO (aT nr) a0 a1 a2 a3).2.getD (tN (a1.2.length:Int)) dF).2.1,(((a1.2.length+1):Nat):Int),((aO (aT nr) a0 a1 a2 a3).2.getD (tN (a1.2.length:Int)) dF).2.2.2.1,((aO (aT nr) a0 a1 a2 a3).2.getD (tN (a1.2.length:Int)) dF).2.2.2.2.1,((aO (aT nr) a0 a1 a2 a3).2.getD (tN (a1.2.length:Int)) dF).2.2.2.2.2)).getD (tN (a1.2.length:Int)) dF).2.2.1,(((mL (aT nr) a0 a1 a2 a3).2.length:Nat):Int),(((aO (aT nr) a0 a1 a2 a3).2.set (tN (a1.2.length:Int)) (((aO (aT nr) a0 a1 a2 a3).2.getD (tN (a1.2.length:Int)) dF).1,((aO (aT nr) a0 a1 a2 a3).2.getD (tN (a1.2.length:Int)) dF).2.1,(((a1.2.length+1):Nat):Int),((aO (aT nr) a0 a1 a2 a3).2.getD (tN (a1.2.length:Int)) dF).2.2.2.1,((aO (aT nr) a0 a1 a2 a3).2.getD (tN (a1.2.length:Int)) dF).2.2.2.2.1,((aO (aT nr) a0 a1 a2 a3).2.getD (tN (a1.2.length:Int)) dF).2.2.2.2.2)).getD (tN (a1.2.length:Int)) dF).2.2.2.2.1,(((aO (aT nr) a0 a1 a2 a3).2.set (tN (a1.2.length:Int)) (((aO (aT nr) a0 a1 a2 a3).2.getD (tN (a1.2.length:Int)) dF).1,((aO (aT nr) a0 a1 a2 a3).2.getD (tN (a1.2.length:Int)) dF).2.1,(((a1.2.length+1):Nat):Int),((aO (aT nr) a0 a1 a2 a3).2.getD (tN (a1.2.length:Int)) dF).2.2.2.1,((aO (aT nr) a0 a1 a2 a3).2.getD (tN (a1.2.length:Int)) dF).2.2.2.2.1,((aO (aT nr) a0 a1 a2 a3).2.getD (tN (a1.2.length:Int)) dF).2.2.2.2.2)).getD (tN (a1.2.length:Int)) dF).2.2.2.2.2))))
def aAc (a0:cC)(a1:ZL×eB)(a2:ZL)(a3:Int):ZL×eB:=aT (a2.length+1) a0 a1 a2 a3
theorem aV5:∀(nr:Nat) (l:fV) (t:TR) (ns:ZL) (leaf:Int),PGRW l ([],t.2) ns leaf->ns.length < nr->aT nr l t ns leaf=aH nr l ([],t.2) ns leaf
 | 0,_,_,_,_,_,h=>absurd h (fW _)
 | nr+1,l,t,ns,leaf,hp,hn=>by
  have h:=hp.rng;have hl:=hp.lf;simp only [aT,aH];by_cases h0:(ns.length:Int)<=leaf
  ·rw [cL h0,cond_true,cond_true];rfl
  ·rw [cV h0,cond_false,cond_false];have g2:2<=ns.length:=by omega
   have hs:=aDb hp (aV l ns);have hf:=aDa (n:=ns.length) (by omega);have hpt1:=cD (l:=bY l ns (aV l ns)) (a:=0) (b:=(((ns.length+1) / 2:Nat):Int)) (by omega);have hpt2:=cD (l:=bY l ns (aV l ns)) (a:=(((ns.length+1) / 2:Nat):Int)) (b:=(ns.length:Int)) (by omega);have e2:mL (aT nr) l t ns leaf=cU (aH nr) l ([],t.2) ns leaf:=aV5 nr _ ([],_) _ _ (vK hp _ g2) (by rw [hs.1,hf,hpt1];omega);have h5:GRR _ (cU (aH nr) l ([],t.2) ns leaf) _:=uL nr _ _ _ _ (vK hp _ g2) (by rw [hs.1,hf,hpt1];omega);have e3:aO (aT nr) l t ns leaf=aL (aH nr) l ([],t.2) ns leaf:=by
    unfold aO aL jJ;rw [e2];exact tQ _ _ _ _ _ _ (aJi hp _ g2 h5) (lss _) (by rw [hs.1,hf,hpt2];omega)
   rw [e3,e2]
def vN (a0:cC)(a1:ZL×eB)(a2:ZL)(a3:Int):=(vJ (mK a0 a2) ((cB a0 a2 0),(cB a0 a2 1),(cB a0 a2 2)))
def jZ (a0:cC)(a1:ZL×eB)(a2:ZL)(a3:Int):=(aAc a0 (([]:ZL),([(0,(W (0+(a2.length:Int))),(-1),(-1),((cB a0 a2 0),(cB a0 a2 1),(cB a0 a2 2)),(vN a0 a1 a2 a3).1)]:eB)) (Aw.part (bY a0 a2 (aV a0 a2)) 0 (W (tD (W ((((bY a0 a2 (aV a0 a2)).length:Nat):Int)+1)) 2))) a3)
def aP (a0:cC)(a1:ZL×eB)(a2:ZL)(a3:Int):=(jJ a0 ((jZ a0 a1 a2 a3).1,(jZ a0 a1 a2 a3).2) (Aw.part (bY a0 a2 (aV a0 a2)) (W (tD (W ((((bY a0 a2 (aV a0 a2)).length:Nat):Int)+1)) 2)) (((bY a0 a2 (aV a0 a2)).length:Nat):Int)) a3)
def aAd:Nat->cC->(ZL×eB)->ZL->(Int)->ZL×eB | 0,_,_,_,_=>dF | nr+1,a0,a1,a2,a3 => (bif (decide (((a2.length:Int):Int)<=a3))then(a2,([(0,(W (0+(a2.length:Int))),(-1),(-1),((cB a0 a2 0),(cB a0 a2 1),(cB a0 a2 2)),(vN a0 a1 a2 a3).1)]:eB))else((aP a0 a1 a2 a3).1,(((aP a0 a1 a2 a3).2.set (tN 0) (((aP a0 a1 a2 a3).2.getD (tN 0) dF).1,((aP a0 a1 a2 a3).2.getD (tN 0) dF).2.1,1,((aP a0 a1 a2 a3).2.getD (tN 0) dF).2.2.2.1,((aP a0 a1 a2 a3).2.getD (tN 0) dF).2.2.2.2.1,((aP a0 a1 a2 a3).2.getD (tN 0) dF).2.2.2.2.2)).set (tN 0) ((((aP a0 a1 a2 a3).2.set (tN 0) (((aP a0 a1 a2 a3).2.getD (tN 0) dF).1,((aP a0 a1 a2 a3).2.getD (tN 0) dF).2.1,1,((aP a0 a1 a2 a3).2.getD (tN 0) dF).2.2.2.1,((aP a0 a1 a2 a3).2.getD (tN 0) dF).2.2.2.2.1,((aP a0 a1 a2 a3).2.getD (tN 0) dF).2.2.2.2.2)).getD (tN 0) dF).1,(((aP a0 a1 a2 a3).2.set (tN 0) (((aP a0 a1 a2 a3).2.getD (tN 0) dF).1,((aP a0 a1 a2 a3).2.getD (tN 0) dF).2.1,1,((aP a0 a1 a2 a3).2.getD (tN 0) dF).2.2.2.1,((aP a0 a1 a2 a3).2.getD (tN 0) dF).2.2.2.2.1,((aP a0 a1 a2 a3).2.getD (tN 0) dF).2.2.2.2.2)).getD (tN 0) dF).2.1,(((aP a0 a1 a2 a3).2.set (tN 0) (((aP a0 a1 a2 a3).2.getD (tN 0) dF).1,((aP a0 a1 a2 a3).2.getD (tN 0) dF).2.1,1,((aP a0 a1 a2 a3).2.getD (tN 0) dF).2.2.2.1,((aP a0 a1 a2 a3).2.getD (tN 0) dF).2.2.2.2.1,((aP a0 a1 a2 a3).2.getD (tN 0) dF).2.2.2.2.2)).getD (tN 0) dF).2.2.1,(((jZ a0 a1 a2 a3).2.length:Nat):Int),(((aP a0 a1 a2 a3).2.set (tN 0) (((aP a0 a1 a2 a3).2.getD (tN 0) dF).1,((aP a0 a1 a2 a3).2.getD (tN 0) dF).2.1,1,((aP a0 a1 a2 a3).2.getD (tN 0) dF).2.2.2.1,((aP a0 a1 a2 a3).2.getD (tN 0) dF).2.2.2.2.1,((aP a0 a1 a2 a3).2.getD (tN 0) dF).2.2.2.2.2)).getD (tN 0) dF).2.2.2.2.1,(((aP a0 a1 a2 a3).2.set (tN 0) (((aP a0 a1 a2 a3).2.getD (tN 0) dF).1,((aP a0 a1 a2 a3).2.getD (tN 0) dF).2.1,1,((aP a0 a1 a2 a3).2.getD (tN 0) dF).2.2.2.1,((aP a0 a1 a2 a3).2.getD (tN 0) dF).2.2.2.2.1,((aP a0 a1 a2 a3).2.getD (tN 0) dF).2.2.2.2.2)).getD (tN 0) dF).2.2.2.2.2))))
def pU (a0:cC)(a1:ZL×eB)(a2:ZL)(a3:Int):ZL×eB:=aAd (a2.length+1) a0 a1 a2 a3
def xS (a0:cC)(a1:Int):ZL×Int->(ZL×Int)⊕(ZL×eB) | (v2,v3) => (bif (decide ((v3:Int) < (a0.length:Int)))then(.inl ((v2++[v3]),(v3+1)))else(bif (((a0.length:Int):Int) == 0)then(.inr (([]:ZL),([]:eB)))else(.inr ((pU a0 (([]:ZL),([]:eB)) v2 a1).1,(pU a0 (([]:ZL),([]:eB)) v2 a1).2))))
def aDc (a0:cC)(a1:Int):ZL×eB := (aE (xS a0 a1) (tN ((a0.length:Int) - 0)+1) (([]:ZL),0))
def aK2 (a0:cC)(a1:Int):(ZL×eB)×Int := (bif (((oL a0):Int) != 0)then((([]:ZL),([]:eB)),(oL a0))else(bif (decide ((a1:Int) < 1))then((([]:ZL),([]:eB)),1)else(bif (decide ((a1:Int) > 16))then((([]:ZL),([]:eB)),1)else(((aDc a0 a1).1,(aDc a0 a1).2),0))))
def aDd (a0 a1:ZL):Int->(Int)⊕(Bool) | v1 => (bif (decide ((v1:Int) < (a0.length:Int)))then(bif (((a0.getD (tN v1) dF):Int) != (a1.getD (tN v1) dF))then(.inr false)else(.inl (v1+1)))else(.inr true))
def rF (a0 a1:ZL):Bool := (bif (((a0.length:Int):Int) != (a1.length:Int))then false else(aE (aDd a0 a1) (tN ((a0.length:Int) - 0)+1) 0))
def aRr (a0 a1:ZL×eB):Int->(Int)⊕(Bool) | v1 => (bif (decide ((v1:Int) < (a0.2.length:Int)))then(bif (!((((a0.2.getD (tN v1) dF).1:Int) == (a1.2.getD (tN v1) dF).1)&&((((a0.2.getD (tN v1) dF).2.1:Int) == (a1.2.getD (tN v1) dF).2.1)&&((((a0.2.getD (tN v1) dF).2.2.1:Int) == (a1.2.getD (tN v1) dF).2.2.1)&&((((a0.2.getD (tN v1) dF).2.2.2.1:Int) == (a1.2.getD (tN v1) dF).2.2.2.1)&&(((((a0.2.getD (tN v1) dF).2.2.2.2.1.1:Int) == (a1.2.getD (tN v1) dF).2.2.2.2.1.1)&&((((a0.2.getD (tN v1) dF).2.2.2.2.1.2.1:Int) == (a1.2.getD (tN v1) dF).2.2.2.2.1.2.1)&&((((a0.2.getD (tN v1) dF).2.2.2.2.1.2.2:Int) == (a1.2.getD (tN v1) dF).2.2.2.2.1.2.2)&&true)))&&((((a0.2.getD (tN v1) dF).2.2.2.2.2:Int) == (a1.2.getD (tN v1) dF).2.2.2.2.2)&&true)))))))then(.inr false)else(.inl (v1+1)))else(.inr true))
def aO0 (a0 a1:ZL×eB):Bool := (bif (!(rF a0.1 a1.1))then false else(bif (((a0.2.length:Int):Int) != (a1.2.length:Int))then false else(aE (aRr a0 a1) (tN ((a0.2.length:Int) - 0)+1) 0)))
def xT (l:fV):Prop:=l.length<=96/\∀i,i < l.length->vp (l.getD i dF).1=0/\(-100<=(l.getD i dF).2/\(l.getD i dF).2<=100)
theorem aJj {l:fV}:∀(d i n:Nat),d=l.length - i->i<=l.length->d < n->aE (fX l) n (i:Int)=0->∀j,i<=j->j < l.length->vp (l.getD j dF).1=0/\(-100<=(l.getD j dF).2/\(l.getD j dF).2<=100)
 | 0,i,n,hd,hi,hn,_,j,h1,h2=>absurd h2 (by omega)
 | d+1,i,n,hd,hi,hn,h,j,h1,h2=>by
  obtain⟨n,rfl⟩:∃m,n=m+1:=⟨n - 1,by omega⟩;have e:fX l (i:Int)=bif (((F75 (l.getD i dF).1):Int) != 0) then .inr (F75 (l.getD i dF).1) else bif (!(F41 (l.getD i dF).2 (-100) 100)) then .inr 1 else .inl ((i+1:Nat):Int):=by
   simp only [fX,iH];rw [cL (show((i:Nat):Int) < (l.length:Int) by omega),cond_true];rfl
  cases hv:(((F75 (l.getD i dF).1):Int) != 0)
  case true=>rw [hv,cond_true] at e;rw [aM e] at h;rw [h] at hv;exact absurd hv (by decide)
  rw [hv,cond_false] at e;cases hw:(!(F41 (l.getD i dF).2 (-100) 100))
  case true=>rw [hw,cond_true] at e;rw [aM e] at h;exact absurd h (by decide)
  rw [hw,cond_false] at e;rw [aD e] at h;by_cases hj:j=i
  ·subst hj;refine⟨?_,?_⟩
   ·rw [←aT4];exact bne_eq_false_iff_eq.1 hv
   ·simp only [F41,Bool.not_eq_false'] at hw;by_cases h3:(l.getD j dF).2≥-100
    ·rw [cL h3,cond_true] at hw;exact⟨h3,dE hw⟩
    ·rw [cV h3,cond_false] at hw;cases hw
  ·exact aJj d (i+1) n (by omega) (by omega) (by omega) h j (by omega) h2
theorem zD {l:fV} (h:gL l=0):xT l:=by
 refine⟨uK h,fun i hi=>?_⟩;have hl:=uK h;unfold gL at h;rw [cV (show ¬(l.length:Int) > 96 by omega),cond_false] at h;exact aJj l.length 0 _ (by omega) (by omega) (by omega) h i (Nat.zero_le _) hi
theorem aK3 {l:fV} (h:xT l) {i:Nat} (hi:i < l.length):bdP 64 (l.getD i dF).1:=(aIr (h.2 i hi).1).1
section
variable {l : fV} {ns : ZL}
theorem aJk {i:Nat} (hi:i < ns.length):(dA l ns).getD i dF=l.getD (tN (ns.getD i dF)) dF:=by
 rw [aGl];simp [fS,hi]
theorem aJl (hl:ns.length<=1048576):∀(n i:Nat) (a1 a2 a3 b1 b2 b3:Int),ns.length - i < n ->
 aE (iF (dA l ns)) n ((i:Int),a1,a2,a3,b1,b2,b3) =
  (aE (fB l ns 0) n (a1,b1,(i:Int)),aE (fB l ns 1) n (a2,b2,(i:Int)),aE (fB l ns 2) n (a3,b3,(i:Int)))
 | 0,_,_,_,_,_,_,_,h=>absurd h (fW _)
 | n+1,i,a1,a2,a3,b1,b2,b3,h=>by
  have hm:(dA l ns).length=ns.length:=aA5 l ns;by_cases h1:i < ns.length
  ·have hg:=aJk (l:=l) h1;have e:iF (dA l ns) ((i:Int),a1,a2,a3,b1,b2,b3)=.inl (((i+1:Nat):Int),iQ (iQ (iQ a1 (l.getD (tN (ns.getD i dF)) dF).1.1.1) (l.getD (tN (ns.getD i dF)) dF).1.2.1.1) (l.getD (tN (ns.getD i dF)) dF).1.2.2.1,iQ (iQ (iQ a2 (l.getD (tN (ns.getD i dF)) dF).1.1.2.1) (l.getD (tN (ns.getD i dF)) dF).1.2.1.2.1) (l.getD (tN (ns.getD i dF)) dF).1.2.2.2.1,iQ (iQ (iQ a3 (l.getD (tN (ns.getD i dF)) dF).1.1.2.2) (l.getD (tN (ns.getD i dF)) dF).1.2.1.2.2) (l.getD (tN (ns.getD i dF)) dF).1.2.2.2.2,
    bX (bX (bX b1 (l.getD (tN (ns.getD i dF)) dF).1.1.1) (l.getD (tN (ns.getD i dF)) dF).1.2.1.1) (l.getD (tN (ns.getD i dF)) dF).1.2.2.1,bX (bX (bX b2 (l.getD (tN (ns.getD i dF)) dF).1.1.2.1) (l.getD (tN (ns.getD i dF)) dF).1.2.1.2.1) (l.getD (tN (ns.getD i dF)) dF).1.2.2.2.1,bX (bX (bX b3 (l.getD (tN (ns.getD i dF)) dF).1.1.2.2) (l.getD (tN (ns.getD i dF)) dF).1.2.1.2.2) (l.getD (tN (ns.getD i dF)) dF).1.2.2.2.2):=by
    simp only [iF,iH,hg,hm];rw [cL (by omega),cond_true];rfl
   have r:∀k a b,fB l ns k (a,b,(i:Int))=.inl (iQ (iQ (iQ a (gX (l.getD (tN (ns.getD i dF)) dF).1.1 k)) (gX (l.getD (tN (ns.getD i dF)) dF).1.2.1 k)) (gX (l.getD (tN (ns.getD i dF)) dF).1.2.2 k),
    bX (bX (bX b (gX (l.getD (tN (ns.getD i dF)) dF).1.1 k)) (gX (l.getD (tN (ns.getD i dF)) dF).1.2.1 k)) (gX (l.getD (tN (ns.getD i dF)) dF).1.2.2 k),((i+1:Nat):Int)):=fun k a b=>by
    simp only [fB,iH];rw [cL (by omega),cond_true];rfl
   rw [aD e,aD (r 0 a1 b1),aD (r 1 a2 b2),aD (r 2 a3 b3)];exact aJl hl n (i+1) _ _ _ _ _ _ (by omega)
  ·have e:iF (dA l ns) ((i:Int),a1,a2,a3,b1,b2,b3)=.inr (aK1 a1 b1,aK1 a2 b2,aK1 a3 b3):=by
    simp only [iF,hm];rw [cV (by omega),cond_false];rfl
   have r:∀k a b,fB l ns k (a,b,(i:Int))=.inr (aK1 a b):=fun k a b=>by
    simp only [fB];rw [cV (by omega),cond_false]
   rw [aM e,aM (r 0 a1 b1),aM (r 1 a2 b2),aM (r 2 a3 b3)]
theorem aXz (hv:xT l)(hi:InR l.length ns)(h1:1<=ns.length)(hl:ns.length<=1048576):cI (dA l ns)=(cB l ns 0,cB l ns 1,cB l ns 2):=by
 have hm:(dA l ns).length=ns.length:=aA5 l ns;have hg:=aJk (l:=l) (ns:=ns) (i:=0) (by omega);have h0:=hi.at (i:=0) (by omega);have hb:=aK3 hv (i:=tN (ns.getD 0 dF)) (by omega);unfold cI cB;rw [hm,show(tN 0)=0 from rfl,hg];obtain⟨n,hn⟩:∃n,tN ((ns.length:Int) - 0)+1=n+1:=⟨_,rfl⟩;rw [hn];have hnn:ns.length<=n:=by omega
 generalize hp:l.getD (tN (ns.getD 0 dF)) dF=p at hb hg ⊢
 -- the first round
 have e:iF (dA l ns) (0,p.1.1.1,p.1.1.2.1,p.1.1.2.2,p.1.1.1,p.1.1.2.1,p.1.1.2.2)=.inl (((1:Nat):Int),iQ (iQ (iQ p.1.1.1 p.1.1.1) p.1.2.1.1) p.1.2.2.1,iQ (iQ (iQ p.1.1.2.1 p.1.1.2.1) p.1.2.1.2.1) p.1.2.2.2.1,iQ (iQ (iQ p.1.1.2.2 p.1.1.2.2) p.1.2.1.2.2) p.1.2.2.2.2,
  bX (bX (bX p.1.1.1 p.1.1.1) p.1.2.1.1) p.1.2.2.1,bX (bX (bX p.1.1.2.1 p.1.1.2.1) p.1.2.1.2.1) p.1.2.2.2.1,bX (bX (bX p.1.1.2.2 p.1.1.2.2) p.1.2.1.2.2) p.1.2.2.2.2):=by
  simp only [iF,show(tN 0)=0 from rfl,hg,hm];rw [cL (by omega),cond_true];rfl
 have r:∀k,fB l ns k (64,(-64),0)=.inl (iQ (iQ (iQ 64 (gX p.1.1 k)) (gX p.1.2.1 k)) (gX p.1.2.2 k),
  bX (bX (bX (-64) (gX p.1.1 k)) (gX p.1.2.1 k)) (gX p.1.2.2 k),((1:Nat):Int)):=fun k=>by
  simp only [fB,show(tN 0)=0 from rfl,hp];rw [cL (by omega),cond_true];rfl
 have m1:∀x y z:Int,(-64<=x/\x<=64)->iQ (iQ (iQ 64 x) y) z=iQ (iQ (iQ x x) y) z:=fun x y z hx=>by
  congr 2;unfold iQ;split<;>split<;>omega
 have m2:∀x y z:Int,(-64<=x/\x<=64)->bX (bX (bX (-64) x) y) z=bX (bX (bX x x) y) z:=fun x y z hx=>by
  congr 2;unfold bX;split<;>split<;>omega
 obtain⟨⟨hx,hy,hz⟩,_⟩:=hb;rw [aD e,aD (r 0),aD (r 1),aD (r 2),aJl hl n 1 _ _ _ _ _ _ (by omega)];rw [m1 _ _ _ (show -64<=gX p.1.1 0/\gX p.1.1 0<=64 from hx),m2 _ _ _ (show -64<=gX p.1.1 0/\gX p.1.1 0<=64 from hx),
  m1 _ _ _ (show -64<=gX p.1.1 1/\gX p.1.1 1<=64 from hy),m2 _ _ _ (show -64<=gX p.1.1 1/\gX p.1.1 1<=64 from hy),
  m1 _ _ _ (show -64<=gX p.1.1 2/\gX p.1.1 2<=64 from hz),m2 _ _ _ (show -64<=gX p.1.1 2/\gX p.1.1 2<=64 from hz)]
 rfl
theorem aNe (hv:xT l)(hi:InR l.length ns)(k:Int):∀(n i:Nat) (a b:Int),ns.length - i < n->(-64<=a/\a<=64)->(-64<=b/\b<=64)->-64<=aE (fB l ns k) n (a,b,(i:Int))/\aE (fB l ns k) n (a,b,(i:Int))<=64
 | 0,_,_,_,h,_,_=>absurd h (fW _)
 | n+1,i,a,b,h,ha,hb=>by
  by_cases h1:i < ns.length
  ·have h0:=hi.at h1;have hp:=aK3 hv (i:=tN (ns.getD i dF)) (by omega);have r:fB l ns k (a,b,(i:Int))=.inl (iQ (iQ (iQ a (gX (l.getD (tN (ns.getD i dF)) dF).1.1 k)) (gX (l.getD (tN (ns.getD i dF)) dF).1.2.1 k)) (gX (l.getD (tN (ns.getD i dF)) dF).1.2.2 k),
    bX (bX (bX b (gX (l.getD (tN (ns.getD i dF)) dF).1.1 k)) (gX (l.getD (tN (ns.getD i dF)) dF).1.2.1 k)) (gX (l.getD (tN (ns.getD i dF)) dF).1.2.2 k),((i+1:Nat):Int)):=by
    simp only [fB,iH];rw [cL (by omega),cond_true];rfl
   rw [aD r];have ax:∀p:Zt,bd 64 p->-64<=gX p k/\gX p k<=64:=fun p hp=>by
    unfold gX;rw [Bool.cond_eq_ite];split
    ·exact hp.1
    ·rw [Bool.cond_eq_ite];split
     ·exact hp.2.1
     ·exact hp.2.2
   have qa1:=ax _ hp.1;have qa2:=ax _ hp.2.1;have qa3:=ax _ hp.2.2;have mn:∀x y:Int,(-64<=x/\x<=64)->(-64<=y/\y<=64)->-64<=iQ x y/\iQ x y<=64:=fun x y hx hy=>by unfold iQ;split<;>assumption
   have mx:∀x y:Int,(-64<=x/\x<=64)->(-64<=y/\y<=64)->-64<=bX x y/\bX x y<=64:=fun x y hx hy=>by unfold bX;split<;>assumption
   exact aNe hv hi k n (i+1) _ _ (by omega) (mn _ _ (mn _ _ (mn _ _ ha qa1) qa2) qa3) (mx _ _ (mx _ _ (mx _ _ hb qa1) qa2) qa3)
  ·have r:fB l ns k (a,b,(i:Int))=.inr (aK1 a b):=by
    simp only [fB];rw [cV (by omega),cond_false]
   rw [aM r];unfold aK1;rw [aG (by omega) (by omega),show(2:Int) ^ (min (tN 1) 64)=2 from by decide,Int.fdiv_eq_ediv_of_nonneg _ (by decide)];omega
theorem rW (hv:xT l)(hi:InR l.length ns)(k:Int):-64<=cB l ns k/\cB l ns k<=64 :=
 aNe hv hi k _ 0 64 (-64) (by omega) (by omega) (by omega)
theorem aX0 (m:fV) {c:Zt} (hc:bd 64 c):tO m c=vJ m c:=by
 obtain⟨h1,h2,h3⟩:=hc;have hW:W (0 - 64)=-64:=by decide
 have e1:F91 c 64=true:=by
  unfold F91 rC;rw [hW,cL h1.1,cL h1.2,cL h2.1,cL h2.2,cL h3.1,cL h3.2];rfl
 have sz:∀x:Int,(-64<=x/\x<=64)->F63 x<=64:=fun x hx=>by
  unfold F63;rw [aG (n:=0 - x) (by omega) (by omega)];split<;>omega
 have e2:F59 c 64=true:=by
  unfold F59;rw [hW,cL (sz _ h1),cL (sz _ h2),cL (sz _ h3),cL (show c.1≥-64 from h1.1),cL (show c.2.1≥-64 from h2.1),cL (show c.2.2≥-64 from h3.1)];rfl
 have e3:mV m c=aFg m c:=by
  unfold mV aFg;rw [rV,e1,e2]
 have e4:oX m c=pT m c:=by
  funext ⟨v1,v2⟩
  rfl
 unfold tO vJ;rw [e3,e4]
def bAj (b:BU):Zt⊕Int->Zt⊕(BU×Int) | .inl s=>.inl s | .inr x=>.inr (b,x)
theorem aNf {b:BU} (hb:b.1=l) {k:Int}:∀(n i:Nat) (v15 v16 lo hi:Int),ns.length - i < n ->
 aE (fU b ns) n (v15,v16,k,lo,hi,k,(i:Int))=bAj b (aE (gO l ns) n (v15,v16,k,lo,hi,(i:Int)))
 | 0,_,_,_,_,_,h=>absurd h (fW _)
 | n+1,i,v15,v16,lo,hi,h=>by
  have hk:∀x:Int,kJ (b.1,b.2.1,(b.2.2.1,b.2.2.2)) x k=lR (l.getD (tN x) dF) k:=fun x=>by
   rw [aGn,←hb];rfl
  by_cases h1:i < ns.length
  ·have e:fU b ns (v15,v16,k,lo,hi,k,(i:Int))=.inl (v15,v16,k,iQ lo (lR (l.getD (tN (ns.getD i dF)) dF) k),bX hi (lR (l.getD (tN (ns.getD i dF)) dF) k),k,((i+1:Nat):Int)):=by
    simp only [fU,hk,iH];rw [cL (by omega),cond_true];rfl
   have r:gO l ns (v15,v16,k,lo,hi,(i:Int))=.inl (v15,v16,k,iQ lo (lR (l.getD (tN (ns.getD i dF)) dF) k),bX hi (lR (l.getD (tN (ns.getD i dF)) dF) k),((i+1:Nat):Int)):=by
    simp only [gO,iH];rw [cL (by omega),cond_true];rfl
   rw [aD e,aD r];exact aNf hb n (i+1) _ _ _ _ (by omega)
  ·have e:fU b ns (v15,v16,k,lo,hi,k,(i:Int))=.inr (bAj b (bif (decide (((W (hi - lo)):Int) > v16)) then .inl (k,(W (hi - lo)),k+1) else .inl (v15,v16,k+1))):=by
    simp only [fU];rw [cV (by omega),cond_false];cases decide (((W (hi - lo)):Int) > v16)<;>rfl
   have r:gO l ns (v15,v16,k,lo,hi,(i:Int))=.inr (bif (decide (((W (hi - lo)):Int) > v16)) then .inl (k,(W (hi - lo)),k+1) else .inl (v15,v16,k+1)):=by
    simp only [gO];rw [cV (by omega),cond_false];cases decide (((W (hi - lo)):Int) > v16)<;>rfl
   rw [aM e,aM r]
theorem aNg {b:BU} (hb:b.1=l)(h1:1<=ns.length):∀(n:Nat) (v12 v13 k:Int),tN (3 - k) < n ->
 aE (iG b ns) n (v12,v13,k)=(b,aE (lS l ns) n (v12,v13,k))
 | 0,_,_,_,h=>absurd h (fW _)
 | n+1,v12,v13,k,h=>by
  have hk:∀x:Int,kJ (b.1,b.2.1,(b.2.2.1,b.2.2.2)) x k=lR (l.getD (tN x) dF) k:=fun x=>by
   rw [aGn,←hb];rfl
  by_cases h3:k < 3
  ·generalize hK:lR (l.getD (tN (ns.getD (tN 0) dF)) dF) k=K;have e0:iG b ns (v12,v13,k)=aE (fU b ns) (tN ((ns.length:Int) - 0)+1) (v12,v13,k,K,K,k,((0:Nat):Int)):=by
    simp only [iG,hk,hK];rw [cL h3,cond_true];rfl
   have r0:lS l ns (v12,v13,k)=aE (gO l ns) (tN ((ns.length:Int) - 1)+1) (v12,v13,k,K,K,((1:Nat):Int)):=by
    simp only [lS,hK];rw [cL h3,cond_true];rfl
   have f0:tN ((ns.length:Int) - 0)+1=(tN ((ns.length:Int) - 1)+1)+1:=by omega
   have e1:fU b ns (v12,v13,k,K,K,k,((0:Nat):Int))=.inl (v12,v13,k,K,K,k,((1:Nat):Int)):=by
    simp only [fU,hk,iH];rw [show(tN 0)=0 from rfl] at hK;rw [cL (by omega),cond_true,hK,if_neg (by omega)];rfl
   rw [f0,aD e1,aNf hb _ 1 _ _ _ _ (by omega),←r0] at e0
   -- what a round brings
   have hr:∃x y,lS l ns (v12,v13,k)=.inl (x,y,k+1):=by
    rw [r0];have gen:∀(m i:Nat) (lo hi:Int),ns.length - i < m->∃x y,aE (gO l ns) m (v12,v13,k,lo,hi,(i:Int))=.inl (x,y,k+1):=by
     intro m
     induction m with|zero=>intro _ _ _ h;exact absurd h (fW _)|succ m ih=>?_
     intro i lo hi hm;by_cases hi1:i < ns.length
     ·have r:gO l ns (v12,v13,k,lo,hi,(i:Int))=.inl (v12,v13,k,iQ lo (lR (l.getD (tN (ns.getD i dF)) dF) k),bX hi (lR (l.getD (tN (ns.getD i dF)) dF) k),((i+1:Nat):Int)):=by
       simp only [gO,iH];rw [cL (by omega),cond_true];rfl
      rw [aD r];exact ih _ _ _ (by omega)
     ·have r:gO l ns (v12,v13,k,lo,hi,(i:Int))=.inr (bif (decide (((W (hi - lo)):Int) > v13)) then .inl (k,(W (hi - lo)),k+1) else .inl (v12,v13,k+1)):=by
       simp only [gO];rw [cV (by omega),cond_false];cases decide (((W (hi - lo)):Int) > v13)<;>rfl
      rw [aM r];cases decide (((W (hi - lo)):Int) > v13)
      ·exact⟨_,_,rfl⟩
      ·exact⟨_,_,rfl⟩
    exact gen _ 1 K K (by omega)
   obtain⟨x,y,hr⟩:=hr;rw [hr] at e0;rw [aD (show _=Sum.inl (x,y,k+1) from e0),aD hr];exact aNg hb h1 n _ _ (k+1) (by omega)
  ·have e:iG b ns (v12,v13,k)=.inr (b,v12):=by
    simp only [iG];rw [cV h3,cond_false]
   have r:lS l ns (v12,v13,k)=.inr v12:=by
    simp only [lS];rw [cV h3,cond_false]
   rw [aM e,aM r]
theorem aX1 {b:BU} (hb:b.1=l)(h1:1<=ns.length):aC6 b ns=(b,aV l ns) :=
 aNg hb h1 _ _ _ _ (by omega)
end
end Go.Proofs.YtlffahoikfahlaaGreat
namespace Go.Proofs.YtlffahoikfahlaaGreat
open Go.Proofs Go.Aw Go.RowKit
set_option maxRecDepth 100000
abbrev NDE:=Int×Int×Int×Int×Zt×Int
def aK4 (l:fV)(ns:ZL):Zt:=(cB l ns 0,cB l ns 1,cB l ns 2)
def ndR (l:fV)(ns:ZL)(fr lt rt:Int):NDE:=(fr,fr+ns.length,lt,rt,aK4 l ns,(vJ (mK l ns) (aK4 l ns)).1)
def GT (l:fV)(leaf:Int):Nat->ZL->Int->Int->ZL×List NDE
 | 0,_,_,_=>([],[])
 | n+1,ns,fr,at_ =>
  if(ns.length:Int)<=leaf then(ns,[ndR l ns fr (-1) (-1)]) else
   let s:=qL l (aV l ns) ns;let h:=(ns.length+1) / 2;let a:=GT l leaf n (s.take h) fr (at_+1);let b:=GT l leaf n (s.drop h) (fr+h) (at_+1+a.2.length)
   (a.1++b.1,ndR l ns fr (at_+1) (at_+1+a.2.length)::(a.2++b.2))
theorem mM {l:fV} {leaf:Int} {n:Nat} {ns:ZL} {fr a:Int} (h:(ns.length:Int)<=leaf):GT l leaf (n+1) ns fr a=(ns,[ndR l ns fr (-1) (-1)]):=by
 rw [GT,if_pos h]
theorem mN {l:fV} {leaf:Int} {n:Nat} {ns:ZL} {fr a:Int} (h:¬(ns.length:Int)<=leaf):GT l leaf (n+1) ns fr a =
 ((GT l leaf n ((qL l (aV l ns) ns).take ((ns.length+1) / 2)) fr (a+1)).1++(GT l leaf n ((qL l (aV l ns) ns).drop ((ns.length+1) / 2)) (fr+((ns.length+1) / 2:Nat)) (a+1+(GT l leaf n ((qL l (aV l ns) ns).take ((ns.length+1) / 2)) fr (a+1)).2.length)).1,
   ndR l ns fr (a+1) (a+1+(GT l leaf n ((qL l (aV l ns) ns).take ((ns.length+1) / 2)) fr (a+1)).2.length)::((GT l leaf n ((qL l (aV l ns) ns).take ((ns.length+1) / 2)) fr (a+1)).2++(GT l leaf n ((qL l (aV l ns) ns).drop ((ns.length+1) / 2)) (fr+((ns.length+1) / 2:Nat)) (a+1+(GT l leaf n ((qL l (aV l ns) ns).take ((ns.length+1) / 2)) fr (a+1)).2.length)).2)):=by
 rw [GT,if_neg h]
theorem aRs {α:Type} (pre post:List α)(x y:α):(pre++x::post).set pre.length y=pre++y::post:=by
 rw [List.set_append_right _ _ (Nat.le_refl _),Nat.sub_self];rfl
theorem aNh {α:Type} [Inhabited α] (pre post:List α)(x:α):(pre++x::post).getD pre.length dF=x:=by
 rw [fS,List.getElem?_append_right (Nat.le_refl _),Nat.sub_self];rfl
theorem aV6 {s:ZL} {h:Nat}:Aw.part s 0 (h:Int)=s.take h:=by unfold Aw.part;simp
theorem bAk {s:ZL} {h:Nat}:Aw.part s (h:Int) (s.length:Int)=s.drop h:=by
 unfold Aw.part;rw [iH,iH];exact List.take_of_length_le (by rw [List.length_drop];exact Nat.le_refl _)
theorem aGo:∀(nr:Nat) (l:fV) (t:TR) (ns:ZL) (leaf:Int),PGRW l t ns leaf->ns.length < nr ->
 aH nr l t ns leaf=(t.1++(GT l leaf nr ns t.1.length t.2.length).1,t.2++(GT l leaf nr ns t.1.length t.2.length).2)
 | 0,_,_,_,_,_,h=>absurd h (fW _)
 | nr+1,l,t,ns,leaf,hp,hn=>by
  have h:=hp.rng;have hl:=hp.lf;have hnd:=hp.nds;simp only [aH];have hW:W ((t.1.length:Int)+(ns.length:Int))=(t.1.length:Int)+ns.length:=aG (by omega) (by omega);by_cases h0:(ns.length:Int)<=leaf
  ·rw [cL h0,cond_true,mM h0,hW];rfl
  ·rw [cV h0,cond_false,mN h0];have g2:2<=ns.length:=by omega
   have hs:=aDb hp (aV l ns);have hf:=aDa (n:=ns.length) (by omega);have hso:=aRq (l:=l) (k:=aV l ns) (ns:=ns) (by omega);have hsl:=nR l (aV l ns) ns;have hpt1:=cD (l:=bY l ns (aV l ns)) (a:=0) (b:=(((ns.length+1) / 2:Nat):Int)) (by omega);have hpt2:=cD (l:=bY l ns (aV l ns)) (a:=(((ns.length+1) / 2:Nat):Int)) (b:=(ns.length:Int)) (by omega);have h5:GRR _ (cU (aH nr) l t ns leaf) _:=uL nr _ _ _ _ (vK hp _ g2) (by rw [hs.1,hf,hpt1];omega);have h5o:=h5.ol;rw [hs.1,hf,hpt1] at h5o;dsimp only at h5o;have e2:cU (aH nr) l t ns leaf=_:=aGo nr _ _ _ _ (vK hp _ g2) (by rw [hs.1,hf,hpt1];omega);have e3:aL (aH nr) l t ns leaf=_:=aGo nr _ _ _ _ (aJi hp _ g2 h5) (by rw [hs.1,hf,hpt2];omega);have hf':W (tD (W ((((qL l (aV l ns) ns).length:Nat):Int)+1)) 2)=(((ns.length+1) / 2:Nat):Int):=by rw [hsl];exact hf
   rw [hso,hf',aV6] at e2;rw [hso,hf',bAk] at e3;rw [e2] at h5o e3;simp only [List.length_append,List.length_cons,List.length_nil,Nat.zero_add,Int.natCast_add,Int.natCast_one] at e2 e3 h5o;have ho1:(GT l leaf nr ((qL l (aV l ns) ns).take ((ns.length+1) / 2)) t.1.length (t.2.length+1)).1.length=(ns.length+1) / 2:=by omega
   rw [ho1] at e3;rw [e3,e2];simp only [iH,List.append_assoc,List.cons_append,List.nil_append,aRs,aNh,hW,List.length_append,List.length_cons,Int.natCast_add,Int.natCast_one];rw [show(t.2.length:Int)+((GT l leaf nr ((qL l (aV l ns) ns).take ((ns.length+1) / 2)) t.1.length (t.2.length+1)).2.length+1)=t.2.length+1+(GT l leaf nr ((qL l (aV l ns) ns).take ((ns.length+1) / 2)) t.1.length (t.2.length+1)).2.length by omega];rfl
theorem zE (l:fV) {leaf:Int} (hl:1<=leaf):∀(n:Nat) (ns:ZL) (fr a:Int),ns.length < n->(GT l leaf n ns fr a).1.length=ns.length
 | 0,_,_,_,h=>absurd h (fW _)
 | n+1,ns,fr,a,h=>by
  by_cases h0:(ns.length:Int)<=leaf
  ·rw [mM h0]
  ·rw [mN h0];have hsl:=nR l (aV l ns) ns;simp only [List.length_append];rw [zE l hl n _ _ _ (by rw [List.length_take,hsl];omega),zE l hl n _ _ _ (by rw [List.length_drop,hsl];omega),List.length_take,List.length_drop,hsl];omega
theorem aNi (pre s post:ZL) {i k:Int} (h:Nat)(hi:i=pre.length)(hk:k=i+h)(hh:h<=s.length):Aw.part (pre++(s++post)) i k=s.take h:=by
 unfold Aw.part;rw [hk,hi,show((pre.length:Int)+(h:Int)).toNat=pre.length+h by omega,iH,List.drop_append_of_le_length (Nat.le_refl _),List.drop_length,List.nil_append,show pre.length+h - pre.length=h by omega,List.take_append_of_le_length hh]
theorem aK5:∀(nr:Nat) (b:BU) (i k:Int),PADD b i k->xT b.1->tN (k - i) < nr ->
 cA nr b i k=((b.2.2.2.length:Int),b.1,b.2.1,b.2.2.1.take i.toNat++((GT b.1 b.2.1 nr (Aw.part b.2.2.1 i k) i b.2.2.2.length).1++b.2.2.1.drop k.toNat),b.2.2.2++(GT b.1 b.2.1 nr (Aw.part b.2.2.1 i k) i b.2.2.2.length).2)
 | 0,_,_,_,_,_,h=>absurd h (fW _)
 | nr+1,b,i,k,hp,hv,hn=>by
  have h:=hp.rng;have hn2:=hp.nds;have hl:=hp.lf;have hW:W (k - i)=k - i:=aG (by omega) (by omega);have hpl:=cD (l:=b.2.2.1) (a:=i) (b:=k) (by omega);have hir:=hp.inr.part i k;have hcen:cI (eE b i k)=aK4 b.1 (Aw.part b.2.2.1 i k):=aXz hv hir (by rw [hpl];omega) (by rw [hpl];omega);have hrad:(iO b i k).1=(vJ (mK b.1 (Aw.part b.2.2.1 i k)) (aK4 b.1 (Aw.part b.2.2.1 i k))).1:=by
   unfold iO;rw [hcen,aX0 _ ⟨rW hv hir 0,rW hv hir 1,rW hv hir 2⟩];rfl
  have hnd:∀x y,((i,k,x,y,cI (eE b i k),(iO b i k).1):NDE)=ndR b.1 (Aw.part b.2.2.1 i k) i x y:=fun x y=>by
   unfold ndR;rw [hcen,hrad,hpl,show i+((tN k - tN i:Nat):Int)=k by omega]
  simp only [cA];by_cases h0:W (k - i) > b.2.1
  ·rw [cL h0,cond_true,mN (by rw [hpl];omega)];have h2:2<=k - i:=by omega
   have hm:=aC7 ⟨h.1,h.2.1,by omega⟩;have hax:(aJe b i k).2=aV b.1 (Aw.part b.2.2.1 i k):=by
    unfold aJe;exact congrArg Prod.snd (aX1 (l:=b.1) (b:=(b.1,b.2.1,b.2.2.1,b.2.2.2++[(i,k,(-1),(-1),(cI (eE b i k)),(iO b i k).1)])) rfl (by rw [hpl];omega))
   have hor:aAa b i k=b.2.2.1.take i.toNat++(qL b.1 (aV b.1 (Aw.part b.2.2.1 i k)) (Aw.part b.2.2.1 i k)++b.2.2.1.drop k.toNat):=by
    unfold aAa;rw [aXy (by omega),hax,List.append_assoc,show i.toNat+(k.toNat - i.toNat)=k.toNat by omega];rfl
   have h5:ADDR _ (fR (cA nr) b i k).2 i _:=xQ nr _ _ _ (aOy hp h2) (by rw [hm];omega);have e5:fR (cA nr) b i k=_:=aK5 nr _ _ _ (aOy hp h2) hv (by rw [hm];omega);have e6:aR (cA nr) b i k=_:=aK5 nr _ _ _ (aRk hp (vH hp).1 h2 h5) hv (by rw [hm];omega);have hsl:=nR b.1 (aV b.1 (Aw.part b.2.2.1 i k)) (Aw.part b.2.2.1 i k);rw [hm,hnd] at e5;generalize hs:qL b.1 (aV b.1 (Aw.part b.2.2.1 i k)) (Aw.part b.2.2.1 i k)=s at hor hsl e5 e6 ⊢;generalize hh:((Aw.part b.2.2.1 i k).length+1) / 2=hf at e5 e6 ⊢;have hfe:(i+(k - i+1) / 2)=i+(hf:Int):=by rw [←hh,hpl];omega
   have hsn:s.length=(k - i).toNat:=by rw [hsl,hpl];omega
   have hfs:hf<=s.length:=by rw [←hh,hpl,hsn];omega
   have htk:(b.2.2.1.take i.toNat).length=i.toNat:=by rw [List.length_take];omega
   dsimp only at e5;have d1:(b.2.2.1.take i.toNat++(s++b.2.2.1.drop k.toNat)).take i.toNat=b.2.2.1.take i.toNat:=by
    rw [List.take_append_of_le_length (by rw [htk];exact Nat.le_refl _),List.take_of_length_le (by rw [htk];exact Nat.le_refl _)]
   have d2:(b.2.2.1.take i.toNat++(s++b.2.2.1.drop k.toNat)).drop (i+(hf:Int)).toNat=s.drop hf++b.2.2.1.drop k.toNat:=by
    rw [List.drop_append,List.drop_of_length_le (by rw [htk];omega),List.nil_append,htk,show(i+(hf:Int)).toNat - i.toNat=hf by omega,List.drop_append_of_le_length hfs]
   have g1:=zE b.1 hl nr (s.take hf) i (((b.2.2.2++[ndR b.1 (Aw.part b.2.2.1 i k) i (-1) (-1)]).length:Nat):Int) (by rw [List.length_take,hsn];have:=hn;rw [←hh,hpl];omega);have g2:=zE b.1 hl nr (s.drop hf) (i+(hf:Int)) ((((b.2.2.2++[ndR b.1 (Aw.part b.2.2.1 i k) i (-1) (-1)])++(GT b.1 b.2.1 nr (s.take hf) i (((b.2.2.2++[ndR b.1 (Aw.part b.2.2.1 i k) i (-1) (-1)]).length:Nat):Int)).2).length:Nat):Int) (by rw [List.length_drop,hsn];have:=hn;rw [←hh,hpl];omega);rw [hor,hfe,aNi (b.2.2.1.take i.toNat) s (b.2.2.1.drop k.toNat) hf (by rw [htk];omega) rfl hfs,d1,d2] at e5;rw [e5,hm,hfe] at e6;dsimp only at e6;rw [←List.append_assoc (List.take i.toNat b.2.2.1)] at e6;have hl1:(b.2.2.1.take i.toNat++(GT b.1 b.2.1 nr (s.take hf) i (((b.2.2.2++[ndR b.1 (Aw.part b.2.2.1 i k) i (-1) (-1)]).length:Nat):Int)).1).length=i.toNat+hf:=by
    rw [List.length_append,htk,g1,List.length_take];omega
   rw [aNi _ (s.drop hf) (b.2.2.1.drop k.toNat) (s.drop hf).length (by rw [hl1];omega) (by rw [List.length_drop,hsn];omega) (Nat.le_refl _),List.take_length] at e6;have d3:∀x y z:ZL,x.length=i.toNat+hf->(x++(y++z)).take (i+(hf:Int)).toNat=x:=fun x y z hx=>by
    rw [show(i+(hf:Int)).toNat=x.length by omega,List.take_append_of_le_length (Nat.le_refl _),List.take_length]
   have d4:∀x y z:ZL,x.length=i.toNat+hf->y.length=s.length - hf->(x++(y++z)).drop k.toNat=z:=fun x y z hx hy=>by
    rw [←List.append_assoc,show k.toNat=(x++y).length by rw [List.length_append,hx,hy,hsn];omega,List.drop_append_of_le_length (Nat.le_refl _),List.drop_length,List.nil_append]
   rw [d3 _ _ _ hl1,d4 _ _ _ hl1 (by rw [List.length_drop])] at e6;rw [e6,e5];simp only [iH,List.append_assoc,List.cons_append,List.nil_append,aRs,aNh,List.length_append,List.length_cons,List.length_nil,Nat.zero_add,Int.natCast_add,Int.natCast_one];rw [show(b.2.2.2.length:Int)+((GT b.1 b.2.1 nr (s.take hf) i ((b.2.2.2.length:Int)+1)).2.length+1)=b.2.2.2.length+1+(GT b.1 b.2.1 nr (s.take hf) i ((b.2.2.2.length:Int)+1)).2.length by omega];rfl
  ·rw [cV h0,cond_false,mM (by rw [hpl];omega),hnd];dsimp only;rw [←List.append_assoc,List.append_assoc];have:b.2.2.1.take i.toNat++(Aw.part b.2.2.1 i k++b.2.2.1.drop k.toNat)=b.2.2.1:=by
    unfold Aw.part;have e:b.2.2.1.drop k.toNat=(b.2.2.1.drop i.toNat).drop (k.toNat - i.toNat):=by rw [List.drop_drop,show i.toNat+(k.toNat - i.toNat)=k.toNat by omega]
    rw [e,List.take_append_drop,List.take_append_drop]
   rw [this]
theorem bAl (l:fV)(t:TR)(ns:ZL)(leaf:Int)(hp:PGRW l ([],[]) ns leaf):pU l t ns leaf=jJ l ([],[]) ns leaf:=by
 have h:=hp.rng;have hl:=hp.lf;unfold pU jJ;simp only [aAd,aH];by_cases h0:(ns.length:Int)<=leaf
 ·rw [cL h0,cond_true,cond_true];rfl
 ·rw [cV h0,cond_false,cond_false];have g2:2<=ns.length:=by omega
  have hs:=aDb hp (aV l ns);have hf:=aDa (n:=ns.length) (by omega);have hpt1:=cD (l:=bY l ns (aV l ns)) (a:=0) (b:=(((ns.length+1) / 2:Nat):Int)) (by omega);have hpt2:=cD (l:=bY l ns (aV l ns)) (a:=(((ns.length+1) / 2:Nat):Int)) (b:=(ns.length:Int)) (by omega);have e2:jZ l t ns leaf=cU (aH ns.length) l ([],[]) ns leaf:=by
   unfold jZ cU aAc;refine(aV5 _ l ([],_) _ leaf (vK (t:=([],[])) hp _ g2) (lss _)).trans ?_;exact tQ _ _ _ _ _ _ (vK hp _ g2) (lss _) (by rw [hs.1,hf,hpt1];omega)
  have h5:GRR _ (cU (aH ns.length) l ([],[]) ns leaf) _:=uL _ _ _ _ _ (vK hp _ g2) (by rw [hs.1,hf,hpt1];omega);have e3:aP l t ns leaf=aL (aH ns.length) l ([],[]) ns leaf:=by
   unfold aP aL jJ;rw [e2];exact tQ _ _ _ _ _ _ (aJi hp _ g2 h5) (lss _) (by rw [hs.1,hf,hpt2];omega)
  rw [e3,e2];rfl
def jS (n:Nat):ZL:=(List.range n).map (fun i:Nat=>(i:Int))
theorem eH (n:Nat):(jS n).length=n:=by simp [jS]
theorem zF (n:Nat):jS (n+1)=jS n++[(n:Int)]:=by simp [jS,List.range_succ]
theorem jK (n:Nat):InR n (jS n):=fun x hx=>by
 simp only [jS,List.mem_map,List.mem_range] at hx;obtain⟨i,hi,rfl⟩:=hx;omega
def BT (l:fV)(leaf:Int):ZL×List NDE:=if l.length=0 then([],[]) else GT l leaf (l.length+1) (jS l.length) 0 0
theorem aO1 {l:fV} (h:1<=l.length)(hl:l.length<=96) {leaf:Int} (hf:1<=leaf):PGRW l ([],[]) (jS l.length) leaf :=
 ⟨jK _,by rw [eH];simp only [List.length_nil];omega,by rw [eH];simp only [List.length_nil];omega,hf⟩
theorem aDe (l:fV)(hl:l.length<=96) {leaf:Int} (hf:1<=leaf):aDc l leaf=BT l leaf:=by
 have lp:∀(n i:Nat),l.length - i < n->i<=l.length->aE (xS l leaf) n (jS i,(i:Int))=BT l leaf:=by
  intro n
  induction n with|zero=>intro i h;exact absurd h (fW _)|succ n ih=>?_
  intro i h hi;by_cases h1:i < l.length
  ·have e:xS l leaf (jS i,(i:Int))=.inl (jS (i+1),((i+1:Nat):Int)):=by
    simp only [xS];rw [cL (by omega),cond_true,zF];rfl
   rw [aD e];exact ih _ (by omega) (by omega)
  ·obtain rfl:i=l.length:=by omega
   refine aM ?_;simp only [xS];rw [cV (by omega),cond_false];unfold BT;by_cases h0:l.length=0
   ·rw [if_pos h0,show(((l.length:Int):Int) == 0)=true by simp [h0],cond_true]
   ·have hp:=aO1 (l:=l) (by omega) hl hf;rw [if_neg h0,show(((l.length:Int):Int) == 0)=false by rw [beq_eq_false_iff_ne];omega,cond_false,bAl _ _ _ _ hp];unfold jJ;rw [aGo _ _ _ _ _ hp (lss _),eH];rfl
 exact lp (tN ((l.length:Int) - 0)+1) 0 (by omega) (Nat.zero_le _)
theorem aK6 (l:fV)(hv:xT l) {leaf:Int} (hf:1<=leaf):mX l leaf=BT l leaf:=by
 have hl:=hv.1;have lp:∀(n i:Nat),l.length - i < n->i<=l.length->aE (iJ l leaf) n (jS i,([]:List NDE),(i:Int))=BT l leaf:=by
  intro n
  induction n with|zero=>intro i h;exact absurd h (fW _)|succ n ih=>?_
  intro i h hi;by_cases h1:i < l.length
  ·have e:iJ l leaf (jS i,([]:List NDE),(i:Int))=.inl (jS (i+1),([]:List NDE),((i+1:Nat):Int)):=by
    simp only [iJ];rw [cL (by omega),cond_true,zF];rfl
   rw [aD e];exact ih _ (by omega) (by omega)
  ·obtain rfl:i=l.length:=by omega
   refine aM ?_;simp only [iJ];rw [cV (by omega),cond_false];unfold BT;by_cases h0:l.length=0
   ·rw [if_pos h0,cV (by omega),cond_false];have:jS l.length=[]:=by rw [h0];simp [jS]
    rw [this]
   ·have hp:PADD (l,leaf,(jS l.length,([]:List NDE))) 0 (l.length:Int):=⟨jK _,by dsimp only;rw [eH];omega,by dsimp only;simp only [List.length_nil];omega,hf⟩;rw [if_neg h0,cL (by omega),cond_true];unfold F76;rw [aK5 _ _ _ _ hp hv (lss _)];dsimp only;have hpt:Aw.part (jS l.length) 0 (l.length:Int)=jS l.length:=by rw [aV6,List.take_of_length_le (by rw [eH];exact Nat.le_refl _)]
    have hsub:tN ((l.length:Int) - 0)=l.length:=by omega
    rw [hpt,hsub,iH,List.drop_of_length_le (by rw [eH];exact Nat.le_refl _),List.append_nil];rfl
 exact lp (tN ((l.length:Int) - 0)+1) 0 (by omega) (Nat.zero_le _)
theorem aDf (l:fV)(leaf:Int):aA l leaf=aK2 l leaf:=by
 unfold aA aK2;rw [rV];cases h:((oL l:Int) != 0)
 case true=>rfl
 have h0:gL l=0:=by rw [rV];exact bne_eq_false_iff_eq.1 h
 have hv:=zD h0;rw [cond_false,cond_false];by_cases h1:leaf < 1
 ·rw [cL h1,cond_true,show vI leaf 1 16=false by unfold vI;rw [cV (show ¬leaf≥1 by omega)];rfl];rfl
 ·rw [cV h1,cond_false];by_cases h2:leaf > 16
  ·rw [cL h2,cond_true,show vI leaf 1 16=false by unfold vI;rw [cL (show leaf≥1 by omega),cV (show ¬leaf<=16 by omega)];rfl];rfl
  ·rw [cV h2,cond_false,show vI leaf 1 16=true by unfold vI;rw [cL (show leaf≥1 by omega),cL (show leaf<=16 by omega)];rfl];rw [aK6 l hv (by omega),aDe l hv.1 (by omega)];rfl
theorem aK7 (l:fV) {leaf:Int} (hl:1<=leaf):∀(n:Nat) (ns:ZL) (fr a:Int),ns.length < n->1<=ns.length->(GT l leaf n ns fr a).2.length+1<=2*ns.length
 | 0,_,_,_,h,_=>absurd h (fW _)
 | n+1,ns,fr,a,h,h1=>by
  by_cases h0:(ns.length:Int)<=leaf
  ·rw [mM h0];simp only [List.length_cons,List.length_nil];omega
  ·rw [mN h0];have hsl:=nR l (aV l ns) ns;have g1:=aK7 l hl n ((qL l (aV l ns) ns).take ((ns.length+1) / 2)) fr (a+1) (by rw [List.length_take,hsl];omega) (by rw [List.length_take,hsl];omega);have g2:=aK7 l hl n ((qL l (aV l ns) ns).drop ((ns.length+1) / 2)) (fr+((ns.length+1) / 2:Nat)) (a+1+(GT l leaf n ((qL l (aV l ns) ns).take ((ns.length+1) / 2)) fr (a+1)).2.length) (by rw [List.length_drop,hsl];omega) (by rw [List.length_drop,hsl];omega);rw [List.length_take,hsl] at g1;rw [List.length_drop,hsl] at g2;simp only [List.length_cons,List.length_append];omega
theorem rX (l:fV)(hl:l.length<=96) {leaf:Int} (hf:1<=leaf):(BT l leaf).1.length=l.length/\(BT l leaf).2.length<=192:=by
 unfold BT;by_cases h0:l.length=0
 ·rw [if_pos h0,h0];exact⟨rfl,Nat.zero_le _⟩
 ·rw [if_neg h0];have g1:=zE l hf (l.length+1) (jS l.length) 0 0 (by rw [eH];omega);have g2:=aK7 l hf (l.length+1) (jS l.length) 0 0 (by rw [eH];omega) (by rw [eH];omega);rw [eH] at g1 g2;exact⟨g1,by omega⟩
theorem aK8 (l:fV)(leaf:Int):(aK2 l leaf).1.1.length<=96/\(aK2 l leaf).1.2.length<=192:=by
 unfold aK2;cases h:((oL l:Int) != 0)
 case true=>exact⟨Nat.zero_le _,Nat.zero_le _⟩
 have hl:=aRn (l:=l) (bne_eq_false_iff_eq.1 h);rw [cond_false];by_cases h1:leaf < 1
 ·rw [cL h1];exact⟨Nat.zero_le _,Nat.zero_le _⟩
 ·rw [cV h1,cond_false];by_cases h2:leaf > 16
  ·rw [cL h2];exact⟨Nat.zero_le _,Nat.zero_le _⟩
  ·rw [cV h2,cond_false,aDe l hl (by omega)];have:=rX l hl (leaf:=leaf) (by omega);exact⟨by dsimp only;omega,this.2⟩
theorem nZ (l:fV)(leaf:Int):(aA l leaf).1.1.length<=96/\(aA l leaf).1.2.length<=192:=by rw [aDf];exact aK8 l leaf
theorem aUh {l:fV} {leaf:Int} (h:gL l=0)(hf:1<=leaf):(mX l leaf).1.length<=96/\(mX l leaf).2.length<=192:=by
 have hv:=zD h;rw [aK6 l hv hf];have:=rX l hv.1 hf;have:=hv.1;omega
noncomputable def rY:=bC [1,1,0,1] [] (aX Tryz.f174) []
def tS (a0 a1:ZL)(v1:Int):LS:=⟨jT 26 [(0,(.s 0 0 a0.length 1)),(1,(.s 1 0 a1.length 1)),(12,(iv (a0.length:Int))),(13,(iv v1))],[(.live false true (flat c3 a0)),(.live false true (flat c3 a1))]⟩
def jL (a0 a1:ZL):Int->(Int)⊕(Bool) | v1 => (bif (decide ((v1:Int) < (a0.length:Int)))then(bif (((a0.getD (tN v1) dF):Int) != (a1.getD (tN v1) dF))then(.inr false)else(.inl (v1+1)))else(.inr true))
theorem aK9 (a0 a1:ZL)(l0:a0.length<=2^63-1)(l1:a1.length<=2^63-1) {cx:Cx} (hcx:cx.base=2):∀(n:Nat) (v1:Int),(0<=v1)/\(a0.length=a1.length)->tN ((a0.length:Int) - v1) < n->gG Tryz.f174 cx (.v (.bool (aE (jL a0 a1) n v1))) [] [] (.l rY.1 n::rY.2) (tS a0 a1 v1):=by
 intro n
 induction n with|zero=>intro v1 hi hn;exact absurd hn (fW _)|succ n ih=>?_
 intro v1 hi hn;refine aS ?_;cases h0:(decide ((v1:Int) < (a0.length:Int)))
 case true=>
  have q0:=dE h0;let t1:SL:=[.d h0,.i v1 (a0.length),.L aB a0 v1 0 1,.i v1 (a1.length),.L aB a1 v1 0 1];cases h1:(((a0.getD (tN v1) dF):Int) != (a1.getD (tN v1) dF))
  case true=>have q1:=bne_iff_ne.1 h1;have e:=Eq.refl (jL a0 a1 v1);(conv at e=>rhs;simp only [jL,h0,h1,aQ]);rw [aJ,e];exact rT (t1++[.d h1]) hcx
  have q1:=bne_eq_false_iff_eq.1 h1;have e:=Eq.refl (jL a0 a1 v1);(conv at e=>rhs;simp only [jL,h0,h1,aQ]);rw [aD e];refine bA n (t1++[.d h1]) [0,1,12,13] [] hcx rY (tS a0 a1 (W (v1+1))) ?_;have z0:(W (v1+1))=(v1+1):=aG (by omega) (by omega);rw [z0];exact ih _ (by refine⟨?_,?_⟩<;>(try simp only [Ls])<;>first | omega | assumption | simp) (by omega)
 have q0:=dO h0;have e:=Eq.refl (jL a0 a1 v1);(conv at e=>rhs;simp only [jL,h0,aQ]);rw [aJ,e];exact rT [.d h0] hcx
def mY (a0 a1:ZL):Bool := (bif (((a0.length:Int):Int) != (a1.length:Int))then false else(aE (jL a0 a1) (tN ((a0.length:Int) - 0)+1) 0))
theorem aRt (a0 a1:ZL)(l0:a0.length<=2^63-1)(l1:a1.length<=2^63-1):Con Tryz.prog 174 [(.s 0 0 a0.length 1),(.s 1 0 a1.length 1)] [(.live false true (flat c3 a0)),(.live false true (flat c3 a1))] (.v (.bool (mY a0 a1))) []:=by
 refine cS Tryz.func174 fun cx hcx=>?_
 cases h0:(((a0.length:Int):Int) != (a1.length:Int))
 case true=>have q0:=bne_iff_ne.1 h0;have e:=Eq.refl (mY a0 a1);(conv at e=>rhs;simp only [mY,h0,aQ]);rw [e];exact rT [.d h0] hcx
 have q0:=bne_eq_false_iff_eq.1 h0;have e:=Eq.refl (mY a0 a1);(conv at e=>rhs;simp only [mY,h0,aQ]);rw [e];refine eN [.d h0] [0,1,12,13] [] hcx rY (tS a0 a1 0) (tN ((a0.length:Int) - 0)+1) ?_;exact aK9 a0 a1 l0 l1 hcx (tN ((a0.length:Int) - 0)+1) 0 (by refine⟨?_,?_⟩<;>(try simp only [Ls])<;>first | omega | assumption | simp) (by omega)
noncomputable def rZ:=bC [1,1,0,1] [] (aX Tryz.f175) []
def tT (a0 a1:eB)(v1:Int):LS:=⟨jT 26 [(0,(.s 0 0 a0.length 8)),(1,(.s 1 0 a1.length 8)),(12,(iv (a0.length:Int))),(13,(iv v1))],[(.live false true (flat fP a0)),(.live false true (flat fP a1))]⟩
def jM (a0 a1:eB):Int->(Int)⊕(Bool) | v1 => (bif (decide ((v1:Int) < (a0.length:Int)))then(bif (!((((a0.getD (tN v1) dF).1:Int) == (a1.getD (tN v1) dF).1)&&((((a0.getD (tN v1) dF).2.1:Int) == (a1.getD (tN v1) dF).2.1)&&((((a0.getD (tN v1) dF).2.2.1:Int) == (a1.getD (tN v1) dF).2.2.1)&&((((a0.getD (tN v1) dF).2.2.2.1:Int) == (a1.getD (tN v1) dF).2.2.2.1)&&(((((a0.getD (tN v1) dF).2.2.2.2.1.1:Int) == (a1.getD (tN v1) dF).2.2.2.2.1.1)&&((((a0.getD (tN v1) dF).2.2.2.2.1.2.1:Int) == (a1.getD (tN v1) dF).2.2.2.2.1.2.1)&&((((a0.getD (tN v1) dF).2.2.2.2.1.2.2:Int) == (a1.getD (tN v1) dF).2.2.2.2.1.2.2)&&true)))&&((((a0.getD (tN v1) dF).2.2.2.2.2:Int) == (a1.getD (tN v1) dF).2.2.2.2.2)&&true)))))))then(.inr false)else(.inl (v1+1)))else(.inr true))
theorem aLa (a0 a1:eB)(l0:a0.length<=2^63-1)(l1:a1.length<=2^63-1) {cx:Cx} (hcx:cx.base=2):∀(n:Nat) (v1:Int),(0<=v1)/\(a0.length=a1.length)->tN ((a0.length:Int) - v1) < n->gG Tryz.f175 cx (.v (.bool (aE (jM a0 a1) n v1))) [] [] (.l rZ.1 n::rZ.2) (tT a0 a1 v1):=by
 intro n
 induction n with|zero=>intro v1 hi hn;exact absurd hn (fW _)|succ n ih=>?_
 intro v1 hi hn;refine aS ?_;cases h0:(decide ((v1:Int) < (a0.length:Int)))
 case true=>
  have q0:=dE h0;let t1:SL:=[.d h0,.i v1 (a0.length),.L hU a0 v1 0 8,.i v1 (a1.length),.L hU a1 v1 0 8];cases h1:(!((((a0.getD (tN v1) dF).1:Int) == (a1.getD (tN v1) dF).1)&&((((a0.getD (tN v1) dF).2.1:Int) == (a1.getD (tN v1) dF).2.1)&&((((a0.getD (tN v1) dF).2.2.1:Int) == (a1.getD (tN v1) dF).2.2.1)&&((((a0.getD (tN v1) dF).2.2.2.1:Int) == (a1.getD (tN v1) dF).2.2.2.1)&&(((((a0.getD (tN v1) dF).2.2.2.2.1.1:Int) == (a1.getD (tN v1) dF).2.2.2.2.1.1)&&((((a0.getD (tN v1) dF).2.2.2.2.1.2.1:Int) == (a1.getD (tN v1) dF).2.2.2.2.1.2.1)&&((((a0.getD (tN v1) dF).2.2.2.2.1.2.2:Int) == (a1.getD (tN v1) dF).2.2.2.2.1.2.2)&&true)))&&((((a0.getD (tN v1) dF).2.2.2.2.2:Int) == (a1.getD (tN v1) dF).2.2.2.2.2)&&true)))))))
  case true=>have e:=Eq.refl (jM a0 a1 v1);(conv at e=>rhs;simp only [jM,h0,h1,aQ]);rw [aJ,e];exact rT (t1++[.d h1]) hcx
  have e:=Eq.refl (jM a0 a1 v1);(conv at e=>rhs;simp only [jM,h0,h1,aQ]);rw [aD e];refine bA n (t1++[.d h1]) [0,1,12,13] [] hcx rZ (tT a0 a1 (W (v1+1))) ?_;have z0:(W (v1+1))=(v1+1):=aG (by omega) (by omega);rw [z0];exact ih _ (by refine⟨?_,?_⟩<;>(try simp only [Ls])<;>first | omega | assumption | simp) (by omega)
 have q0:=dO h0;have e:=Eq.refl (jM a0 a1 v1);(conv at e=>rhs;simp only [jM,h0,aQ]);rw [aJ,e];exact rT [.d h0] hcx
def rG (a0 a1:eB):Bool := (bif (((a0.length:Int):Int) != (a1.length:Int))then false else(aE (jM a0 a1) (tN ((a0.length:Int) - 0)+1) 0))
theorem aRu (a0 a1:eB)(l0:a0.length<=2^63-1)(l1:a1.length<=2^63-1):Con Tryz.prog 175 [(.s 0 0 a0.length 8),(.s 1 0 a1.length 8)] [(.live false true (flat fP a0)),(.live false true (flat fP a1))] (.v (.bool (rG a0 a1))) []:=by
 refine cS Tryz.func175 fun cx hcx=>?_
 cases h0:(((a0.length:Int):Int) != (a1.length:Int))
 case true=>have q0:=bne_iff_ne.1 h0;have e:=Eq.refl (rG a0 a1);(conv at e=>rhs;simp only [rG,h0,aQ]);rw [e];exact rT [.d h0] hcx
 have q0:=bne_eq_false_iff_eq.1 h0;have e:=Eq.refl (rG a0 a1);(conv at e=>rhs;simp only [rG,h0,aQ]);rw [e];refine eN [.d h0] [0,1,12,13] [] hcx rZ (tT a0 a1 0) (tN ((a0.length:Int) - 0)+1) ?_;exact aLa a0 a1 l0 l1 hcx (tN ((a0.length:Int) - 0)+1) 0 (by refine⟨?_,?_⟩<;>(try simp only [Ls])<;>first | omega | assumption | simp) (by omega)
def aGp (a0 a1:ZL×eB):Bool := (bif (mY a0.1 a1.1)then(rG a0.2 a1.2)else false)
theorem bCz (a0 a1:ZL×eB)(l0_1:a0.1.length<=2^63-1)(l0_2:a0.2.length<=2^63-1)(l1_1:a1.1.length<=2^63-1)(l1_2:a1.2.length<=2^63-1):Con Tryz.prog 140 [(.a [(.s 0 0 a0.1.length 1),(.s 1 0 a0.2.length 8)]),(.a [(.s 2 0 a1.1.length 1),(.s 3 0 a1.2.length 8)])] [(.live false true (flat c3 a0.1)),(.live false true (flat fP a0.2)),(.live false true (flat c3 a1.1)),(.live false true (flat fP a1.2))] (.v (.bool (aGp a0 a1))) []:=by
 refine cS Tryz.func140 fun cx hcx=>?_
 let t0:SL:=[.c [0,2] (aRt a0.1 a1.1 (by omega) (by omega))];cases h0:(mY a0.1 a1.1)
 case true=>have e:=Eq.refl (aGp a0 a1);(conv at e=>rhs;simp only [aGp,h0,aQ]);rw [e];exact rT (t0++[.d h0,.c [1,3] (aRu a0.2 a1.2 (by omega) (by omega))]) hcx
 have e:=Eq.refl (aGp a0 a1);(conv at e=>rhs;simp only [aGp,h0,aQ]);rw [e];exact rT (t0++[.d h0]) hcx
noncomputable def aA6:=bC [1,1,0,1] [] (aX Tryz.f88) []
def aDg (a0:cC)(a1:ZL×eB)(v1:Int):LS:=⟨jT 21 [(0,(.s 0 0 a0.length 10)),(3,(.p 3 0)),(6,(iv v1))],[(.live false true (flat fJ a0)),(.live false true (flat c3 a1.1)),(.live false true (flat fP a1.2)),(.live true false [(.s 1 0 a1.1.length 1),(.s 2 0 a1.2.length 8)])]⟩
def kX (a0:cC)(a1:ZL×eB):Int->(Int)⊕(Int) | v1 => (bif (decide ((v1:Int)<=16))then(bif (aGp (a1.1,a1.2) ((mX a0 v1).1,(mX a0 v1).2))then(.inr 0)else(.inl (v1+1)))else(.inr 1))
theorem aUi (a0:cC)(a1:ZL×eB)(l0:a0.length<=2^63-1)(l1_1:a1.1.length<=2^63-1)(l1_2:a1.2.length<=2^63-1) {cx:Cx} (hcx:cx.base=3):∀(n:Nat) (v1:Int),(0<=v1)/\(gL a0=0)/\(1<=v1)->tN (16 - v1+1) < n->gG Tryz.f88 cx (iv (aE (kX a0 a1) n v1)) [] [] (.l aA6.1 n::aA6.2) (aDg a0 a1 v1):=by
 intro n
 induction n with|zero=>intro v1 hi hn;exact absurd hn (fW _)|succ n ih=>?_
 intro v1 hi hn;refine aS ?_;have hbl:=aUh (l:=a0) (leaf:=v1) hi.2.1 (by omega);cases h0:(decide ((v1:Int)<=16))
 case true=>
  have q0:=dE h0;let t1:SL:=[.d h0,.c [0] (aV3 a0 v1 (by omega) (uK (l:=a0) hi.2.1) (by omega)),.c [1,2,4,5] (bCz (a1.1,a1.2) ((mX a0 v1).1,(mX a0 v1).2) (by omega) (by omega) (by(try simp only [Lt]);omega) (by(try simp only [Lt]);omega))];cases h1:(aGp (a1.1,a1.2) ((mX a0 v1).1,(mX a0 v1).2))
  case true=>have e:=Eq.refl (kX a0 a1 v1);(conv at e=>rhs;simp only [kX,h0,h1,aQ]);rw [aJ,e];exact rT (t1++[.d h1]) hcx
  have e:=Eq.refl (kX a0 a1 v1);(conv at e=>rhs;simp only [kX,h0,h1,aQ]);rw [aD e];refine bA n (t1++[.d h1]) [0,3,6] [3] hcx aA6 (aDg a0 a1 (W (v1+1))) ?_;have z0:(W (v1+1))=(v1+1):=aG (by omega) (by omega);rw [z0];exact ih _ (by refine⟨?_,?_,?_⟩<;>(try simp only [Ls])<;>first | omega | assumption | simp) (by omega)
 have q0:=dO h0;have e:=Eq.refl (kX a0 a1 v1);(conv at e=>rhs;simp only [kX,h0,aQ]);rw [aJ,e];exact rT [.d h0] hcx
def tU (a0:cC)(a1:ZL×eB):Int := (bif (((gL a0):Int) != 0)then(gL a0)else(aE (kX a0 a1) (tN (16 - 1+1)+1) 1))
theorem bAm (a0:cC)(a1:ZL×eB)(l0:a0.length<=2^63-1)(l1_1:a1.1.length<=2^63-1)(l1_2:a1.2.length<=2^63-1):Con Tryz.prog 88 [(.s 0 0 a0.length 10),(.a [(.s 1 0 a1.1.length 1),(.s 2 0 a1.2.length 8)])] [(.live false true (flat fJ a0)),(.live false true (flat c3 a1.1)),(.live false true (flat fP a1.2))] (iv (tU a0 a1)) []:=by
 refine cS Tryz.func88 fun cx hcx=>?_
 let t0:SL:=[.c [0] (aMe a0 (by omega))];cases h0:(((gL a0):Int) != 0)
 case true=>have q0:=bne_iff_ne.1 h0;have e:=Eq.refl (tU a0 a1);(conv at e=>rhs;simp only [tU,h0,aQ]);rw [e];exact rT (t0++[.d h0]) hcx
 have q0:=bne_eq_false_iff_eq.1 h0;have e:=Eq.refl (tU a0 a1);(conv at e=>rhs;simp only [tU,h0,aQ]);rw [e];refine eN (t0++[.d h0]) [0,3,6] [3] hcx aA6 (aDg a0 a1 1) (tN (16 - 1+1)+1) ?_;exact aUi a0 a1 l0 l1_1 l1_2 hcx (tN (16 - 1+1)+1) 1 (by refine⟨?_,?_,?_⟩<;>(try simp only [Ls])<;>first | omega | assumption | simp) (by omega)
def kG (a0:cC)(a1:ZL×eB):Int->(Int)⊕(Int) | v1 => (bif (decide ((v1:Int)<=16))then(bif (aO0 (a1.1,a1.2) ((aDc a0 v1).1,(aDc a0 v1).2))then(.inr 0)else(.inl (v1+1)))else(.inr 1))
def aAe (a0:cC)(a1:ZL×eB):Int := (bif (((oL a0):Int) != 0)then(oL a0)else(aE (kG a0 a1) (tN (16 - 1+1)+1) 1))
theorem aUj (a b:TR):aGp a b=aO0 a b:=by
 have e1:mY a.1 b.1=rF a.1 b.1:=rfl;unfold aGp aO0;rw [e1];cases rF a.1 b.1<;>rfl
theorem aGq {S:Int->Int⊕Bool} {N:Nat} {p:Nat->Prop} (h1:∀i:Nat,i < N->(S (i:Int)=.inl ((i+1:Nat):Int)/\p i)\/S (i:Int)=.inr false):∀(d i n:Nat),d=N - i->i<=N->d < n->aE S n (i:Int)=true->∀j,i<=j->j < N->p j
 | 0,i,n,hd,hi,hn,_,j,h1,h2=>absurd h2 (by omega)
 | d+1,i,n,hd,hi,hn,h,j,g1,g2=>by
  obtain⟨n,rfl⟩:∃m,n=m+1:=⟨n - 1,by omega⟩;rcases h1 i (by omega) with⟨e,hp⟩ | e
  ·rw [aD e] at h;by_cases hj:j=i
   ·rw [hj];exact hp
   ·exact aGq h1 d (i+1) n (by omega) (by omega) (by omega) h j (by omega) g2
  ·rw [aM e] at h;cases h
theorem aJm {α:Type} [Inhabited α] {a b:List α} (h:a.length=b.length)(h2:∀j,j < a.length->a.getD j dF=b.getD j dF):a=b:=by
 refine List.ext_getElem h fun i h3 h4=>?_
 have:=h2 i h3;rw [fS,fS,List.getElem?_eq_getElem h3,List.getElem?_eq_getElem h4] at this;exact this
theorem aUk {a b:ZL} (h:rF a b=true):a=b:=by
 unfold rF at h;by_cases hl:a.length=b.length
 ·rw [show(((a.length:Int):Int) != (b.length:Int))=false by rw [hl];simp,cond_false] at h;refine aJm hl (aGq (N:=a.length) (p:=fun j=>a.getD j dF=b.getD j dF) (fun i hi=>?_) a.length 0 _ (by omega) (by omega) (by omega) h · (Nat.zero_le _) ·);simp only [aDd,iH];rw [cL (show((i:Nat):Int) < (a.length:Nat) by omega),cond_true];cases e:((a.getD i dF:Int) != b.getD i dF)
  case true=>exact .inr rfl
  exact .inl ⟨rfl,bne_eq_false_iff_eq.1 e⟩
 ·rw [show(((a.length:Int):Int) != (b.length:Int))=true by rw [bne_iff_ne];omega,cond_true] at h;cases h
theorem aRv {a b:TR} (h:aO0 a b=true):a=b:=by
 unfold aO0 at h;cases h1:rF a.1 b.1
 case false=>rw [h1] at h;cases h
 rw [h1,Bool.not_true,cond_false] at h;by_cases hl:a.2.length=b.2.length
 ·rw [show(((a.2.length:Int):Int) != (b.2.length:Int))=false by rw [hl];simp,cond_false] at h;refine Prod.ext (aUk h1) (aJm hl (aGq (N:=a.2.length) (p:=fun j=>a.2.getD j dF=b.2.getD j dF) (fun i hi=>?_) a.2.length 0 _ (by omega) (by omega) (by omega) h · (Nat.zero_le _) ·));simp only [aRr,iH];rw [cL (show((i:Nat):Int) < (a.2.length:Nat) by omega),cond_true];generalize a.2.getD i dF=x;generalize b.2.getD i dF=y;obtain⟨x1,x2,x3,x4,⟨x5,x6,x7⟩,x8⟩:=x;obtain⟨y1,y2,y3,y4,⟨y5,y6,y7⟩,y8⟩:=y;dsimp only;rw [Bool.cond_eq_ite];split
  ·exact .inr rfl
  ·rename_i hq;refine .inl ⟨rfl,?_⟩;simp at hq ⊢;omega
 ·rw [show(((a.2.length:Int):Int) != (b.2.length:Int))=true by rw [bne_iff_ne];omega,cond_true] at h;cases h
theorem aJn {l:fV} {t:TR} (hv:xT l):∀(n:Nat) (v:Int),1<=v->aE (kX l t) n v=aE (kG l t) n v
 | 0,_,_=>rfl
 | n+1,v,h=>by
  have e:kX l t v=kG l t v:=by
   simp only [kX,kG,aUj,aK6 l hv h,aDe l hv.1 h]
  have h2:(kG l t v=.inl (v+1))\/(∃r,kG l t v=.inr r):=by
   simp only [kG];rw [Bool.cond_eq_ite];split
   ·rw [Bool.cond_eq_ite];split
    ·exact .inr ⟨_,rfl⟩
    ·exact .inl rfl
   ·exact .inr ⟨_,rfl⟩
  rcases h2 with h2 | ⟨r,h2⟩
  ·rw [aD (e.trans h2),aD h2];exact aJn hv n (v+1) (by omega)
  ·rw [aM (e.trans h2),aM h2]
theorem aRw (l:fV)(t:TR):tU l t=aAe l t:=by
 unfold tU aAe;rw [rV];cases h:((oL l:Int) != 0)
 case true=>rfl
 exact aJn (zD (by rw [rV];exact bne_eq_false_iff_eq.1 h)) _ 1 (Int.le_refl _)
theorem aGr {l:fV} {t:TR} (h:aAe l t=0):xT l/\∃leaf:Int,1<=leaf/\leaf<=16/\t=BT l leaf:=by
 unfold aAe at h;cases h0:((oL l:Int) != 0)
 case true=>rw [h0,cond_true] at h;rw [h] at h0;cases h0
 rw [h0,cond_false] at h;have hv:=zD (l:=l) (by rw [rV];exact bne_eq_false_iff_eq.1 h0);refine⟨hv,?_⟩;have lp:∀(n:Nat) (v:Int),1<=v->tN (17 - v) < n->aE (kG l t) n v=0->∃leaf:Int,1<=leaf/\leaf<=16/\t=BT l leaf:=by
  intro n
  induction n with|zero=>intro _ _ h;exact absurd h (fW _)|succ n ih=>?_
  intro v h1 h2 h3;by_cases hv16:v<=16
  ·cases hs:aO0 (t.1,t.2) ((aDc l v).1,(aDc l v).2)
   case true=>have:=aRv hs;exact⟨v,h1,hv16,by rw [←aDe l hv.1 h1];exact this⟩
   have e:kG l t v=.inl (v+1):=by
    simp only [kG];rw [cL hv16,cond_true,hs,cond_false]
   rw [aD e] at h3;exact ih _ (by omega) (by omega) h3
  ·have e:kG l t v=.inr 1:=by
    simp only [kG];rw [cV hv16,cond_false]
   rw [aM e] at h3;exact absurd h3 (by decide)
 exact lp _ 1 (Int.le_refl _) (by omega) h
structure NOK (fr m a k:Int) (x:NDE):Prop where
 c1:fr<=x.1
 c2:x.1 < x.2.1
 c3:x.2.1<=fr+m
 c4:(x.2.2.1=-1/\x.2.2.2.1=-1)\/(a < x.2.2.1/\x.2.2.1 < a+k/\a < x.2.2.2.1/\x.2.2.2.1 < a+k)
theorem aV7 (l:fV)(leaf:Int)(n:Nat)(ns:ZL)(fr a:Int):1<=(GT l leaf (n+1) ns fr a).2.length:=by
 by_cases h0:(ns.length:Int)<=leaf
 ·rw [mM h0];simp
 ·rw [mN h0];simp
theorem aRx (l:fV) {leaf:Int} (hl:1<=leaf):∀(n:Nat) (ns:ZL) (fr a:Int),ns.length < n->1<=ns.length->∀x∈(GT l leaf n ns fr a).2,NOK fr ns.length a (GT l leaf n ns fr a).2.length x
 | 0,_,_,_,h,_=>absurd h (fW _)
 | n+1,ns,fr,a,h,h1=>by
  by_cases h0:(ns.length:Int)<=leaf
  ·rw [mM h0];intro x hx;rw [List.mem_singleton.1 hx];exact⟨Int.le_refl _,by unfold ndR;dsimp only;omega,by unfold ndR;exact Int.le_refl _,.inl ⟨rfl,rfl⟩⟩
  ·rw [mN h0];have hsl:=nR l (aV l ns) ns;obtain⟨n,rfl⟩:∃k,n=k+1:=⟨n - 1,by omega⟩;have g1:=aRx l hl (n+1) ((qL l (aV l ns) ns).take ((ns.length+1) / 2)) fr (a+1) (by rw [List.length_take,hsl];omega) (by rw [List.length_take,hsl];omega);have g2:=aRx l hl (n+1) ((qL l (aV l ns) ns).drop ((ns.length+1) / 2)) (fr+((ns.length+1) / 2:Nat)) (a+1+(GT l leaf (n+1) ((qL l (aV l ns) ns).take ((ns.length+1) / 2)) fr (a+1)).2.length) (by rw [List.length_drop,hsl];omega) (by rw [List.length_drop,hsl];omega);have k1:=aV7 l leaf n ((qL l (aV l ns) ns).take ((ns.length+1) / 2)) fr (a+1);have k2:=aV7 l leaf n ((qL l (aV l ns) ns).drop ((ns.length+1) / 2)) (fr+((ns.length+1) / 2:Nat)) (a+1+(GT l leaf (n+1) ((qL l (aV l ns) ns).take ((ns.length+1) / 2)) fr (a+1)).2.length);rw [List.length_take,hsl] at g1;rw [List.length_drop,hsl] at g2;generalize GT l leaf (n+1) ((qL l (aV l ns) ns).take ((ns.length+1) / 2)) fr (a+1)=A at g1 g2 k1 k2 ⊢;generalize GT l leaf (n+1) ((qL l (aV l ns) ns).drop ((ns.length+1) / 2)) (fr+((ns.length+1) / 2:Nat)) (a+1+A.2.length)=B at g2 k2 ⊢;intro x hx;simp only [List.length_cons,List.length_append,Int.natCast_add,Int.natCast_one];rcases List.mem_cons.1 hx with rfl | hx
   ·exact⟨Int.le_refl _,by unfold ndR;dsimp only;omega,by unfold ndR;exact Int.le_refl _,.inr ⟨by unfold ndR;dsimp only;omega,by unfold ndR;dsimp only;omega,by unfold ndR;dsimp only;omega,by unfold ndR;dsimp only;omega⟩⟩
   ·rcases List.mem_append.1 hx with hx | hx
    ·obtain⟨c1,c2,c3,c4⟩:=g1 x hx;exact⟨c1,c2,by omega,by rcases c4 with c4 | c4;exact .inl c4;exact .inr (by omega)⟩
    ·obtain⟨c1,c2,c3,c4⟩:=g2 x hx;exact⟨by omega,c2,by omega,by rcases c4 with c4 | c4;exact .inl c4;exact .inr (by omega)⟩
theorem bAn (l:fV) {leaf:Int} (hl:1<=leaf):∀x∈(BT l leaf).2,NOK 0 l.length 0 (BT l leaf).2.length x:=by
 unfold BT;by_cases h0:l.length=0
 ·rw [if_pos h0];intro x hx;cases hx
 ·rw [if_neg h0];have:=aRx l hl (l.length+1) (jS l.length) 0 0 (by rw [eH];omega) (by rw [eH];omega);rw [eH] at this;exact this
inductive TRE (N:List NDE):Nat->Nat->Int->Int->Int->Prop where
 | leaf {a:Nat} {f t:Int}:a < N.length->f < t->(N.getD a dF).1=f->(N.getD a dF).2.1=t->(N.getD a dF).2.2.1=-1->(N.getD a dF).2.2.2.1=-1->TRE N a 1 f t 1
 | node {a m1 m2:Nat} {f c t h1 h2:Int}:a < N.length->(N.getD a dF).1=f->(N.getD a dF).2.1=t->(N.getD a dF).2.2.1=((a+1:Nat):Int)->(N.getD a dF).2.2.2.1=((a+1+m1:Nat):Int)->TRE N (a+1) m1 f c h1->TRE N (a+1+m1) m2 c t h2->TRE N a (m1+m2+1) f t (1+bX h1 h2)
theorem bC0 (a b:Int):a<=bX a b/\b<=bX a b/\(bX a b=a\/bX a b=b):=by unfold bX;split<;>omega
theorem kY {N:List NDE} {a m:Nat} {f t h:Int} (H:TRE N a m f t h):a+m<=N.length/\1<=m/\f < t/\1<=h/\h<=m/\(N.getD a dF).1=f/\(N.getD a dF).2.1=t:=by
 induction H with
 | leaf h1 h2 h3 h4 _ _=>exact⟨by omega,Nat.le_refl _,h2,Int.le_refl _,Int.le_refl _,h3,h4⟩
 | node g1 g2 g3 g4 g5 _ _ i1 i2 =>
  rename_i h1 h2 _ _;have:=bC0 h1 h2;exact⟨by omega,by omega,by omega,by omega,by omega,g2,g3⟩
theorem aO2 {α:Type} [Inhabited α] {x y:List α} {j:Nat} (h:j < x.length):(x++y).getD j dF=x.getD j dF:=by
 rw [fS,fS,List.getElem?_append_left h]
theorem aO3 {α:Type} [Inhabited α] {x y:List α} {j:Nat}:(x++y).getD (x.length+j) dF=y.getD j dF:=by
 rw [fS,fS,List.getElem?_append_right (by omega),Nat.add_sub_cancel_left]
theorem aLb (l:fV) {leaf:Int} (hl:1<=leaf):∀(n:Nat) (ns:ZL) (fr:Int) (a:Nat) (N:List NDE),ns.length < n->1<=ns.length->a+(GT l leaf n ns fr a).2.length<=N.length ->
 (∀j,j < (GT l leaf n ns fr a).2.length->N.getD (a+j) dF=(GT l leaf n ns fr a).2.getD j dF)->∃h,TRE N a (GT l leaf n ns fr a).2.length fr (fr+ns.length) h
 | 0,_,_,_,_,h,_=>absurd h (fW _)
 | n+1,ns,fr,a,N,h,h1=>by
  by_cases h0:(ns.length:Int)<=leaf
  ·rw [mM h0];intro g1 g2;have e:=g2 0 (by simp);rw [Nat.add_zero] at e;have e':N.getD a dF=ndR l ns fr (-1) (-1):=e;exact⟨1,TRE.leaf (by simp only [List.length_singleton] at g1;omega) (by omega) (by rw [e'];rfl) (by rw [e'];rfl) (by rw [e'];rfl) (by rw [e'];rfl)⟩
  ·rw [mN h0];have hsl:=nR l (aV l ns) ns;have ea:((a:Nat):Int)+1=((a+1:Nat):Int):=by omega
   rw [ea];have c1:=aLb l hl n ((qL l (aV l ns) ns).take ((ns.length+1) / 2)) fr (a+1) N (by rw [List.length_take,hsl];omega) (by rw [List.length_take,hsl];omega);have c2:=aLb l hl n ((qL l (aV l ns) ns).drop ((ns.length+1) / 2)) (fr+((ns.length+1) / 2:Nat)) (a+1+(GT l leaf n ((qL l (aV l ns) ns).take ((ns.length+1) / 2)) fr ((a+1:Nat):Int)).2.length) N (by rw [List.length_drop,hsl];omega) (by rw [List.length_drop,hsl];omega);rw [List.length_take,hsl] at c1;rw [List.length_drop,hsl] at c2;rw [show(((a+1:Nat):Int)+(((GT l leaf n ((qL l (aV l ns) ns).take ((ns.length+1) / 2)) fr ((a+1:Nat):Int)).2.length:Nat):Int))=((a+1+(GT l leaf n ((qL l (aV l ns) ns).take ((ns.length+1) / 2)) fr ((a+1:Nat):Int)).2.length:Nat):Int) by omega];generalize GT l leaf n ((qL l (aV l ns) ns).take ((ns.length+1) / 2)) fr ((a+1:Nat):Int)=A at c1 c2 ⊢;generalize GT l leaf n ((qL l (aV l ns) ns).drop ((ns.length+1) / 2)) (fr+((ns.length+1) / 2:Nat)) ((a+1+A.2.length:Nat):Int)=B at c2 ⊢;intro g1 g2;simp only [List.length_cons,List.length_append] at g1 g2 ⊢;have e':N.getD a dF=ndR l ns fr ((a+1:Nat):Int) ((a+1+A.2.length:Nat):Int):=g2 0 (by omega);obtain⟨x1,d1⟩:=c1 (by omega) (fun j hj=>by
    have:=g2 (j+1) (by omega);rw [List.getD_cons_succ,aO2 hj] at this;rw [←this];congr 1;omega)
   obtain⟨x2,d2⟩:=c2 (by omega) (fun j hj=>by
    have:=g2 (A.2.length+j+1) (by omega);rw [List.getD_cons_succ,aO3] at this;rw [←this];congr 1;omega)
   rw [show fr+((min ((ns.length+1) / 2) ns.length:Nat):Int)=fr+(((ns.length+1) / 2:Nat):Int) by omega] at d1;rw [show fr+(((ns.length+1) / 2:Nat):Int)+((ns.length - (ns.length+1) / 2:Nat):Int)=fr+(ns.length:Int) by omega] at d2;exact⟨_,TRE.node (by omega) (by rw [e'];rfl) (by rw [e'];rfl) (by rw [e'];rfl) (by rw [e'];rfl) d1 d2⟩
theorem aLc (l:fV) {leaf:Int} (hl:1<=leaf):(l.length=0/\BT l leaf=([],[]))\/∃h,TRE (BT l leaf).2 0 (BT l leaf).2.length 0 l.length h:=by
 unfold BT;by_cases h0:l.length=0
 ·rw [if_pos h0];exact .inl ⟨h0,rfl⟩
 ·rw [if_neg h0];have:=aLb l hl (l.length+1) (jS l.length) 0 0 (GT l leaf (l.length+1) (jS l.length) 0 ((0:Nat):Int)).2 (by rw [eH];omega) (by rw [eH];omega) (by omega) (fun j _=>by rw [Nat.zero_add]);rw [eH,Int.zero_add] at this;exact .inr this
theorem bC1 {α:Type} [Inhabited α] {D:List α} {i:Nat} {x:α} (h:i < D.length):(D.set i x).getD i dF=x:=by
 rw [fS,List.getElem?_set_self h];rfl
theorem bC2 {α:Type} [Inhabited α] {D:List α} {i j:Nat} {x:α} (h:i≠j):(D.set i x).getD j dF=D.getD j dF:=by
 rw [fS,fS,List.getElem?_set_ne h]
structure PVIS (i:Int) (t:TR) (far pan:ZL):Prop where
 e0:0<=i
 e1:t.1.length<=1048576
 e2:t.2.length<=1048576
 e3:∃(m:Nat) (f u h:Int),TRE t.2 (tN i) m f u h/\0<=f/\u<=t.1.length/\far.length<=f/\pan.length<=f
theorem aGs {i:Int} {t:TR} {far pan:ZL} (h:PVIS i t far pan):i < t.2.length/\far.length<=t.1.length/\pan.length<=t.1.length/\0<=(t.2.getD (tN i) dF).1/\(t.2.getD (tN i) dF).1 < (t.2.getD (tN i) dF).2.1/\(t.2.getD (tN i) dF).2.1<=t.1.length:=by
 obtain⟨e0,e1,e2,m,f,u,hh,e3,e4,e5,e6,e7⟩:=h;have:=kY e3;omega
theorem aDh {N:List NDE} {a m:Nat} {f u h:Int} (H:TRE N a m f u h):(m=1/\h=1/\(N.getD a dF).2.2.1=-1/\(N.getD a dF).2.2.2.1=-1) \/
 ∃(m1 m2:Nat) (c h1 h2:Int),m=m1+m2+1/\(N.getD a dF).2.2.1=((a+1:Nat):Int)/\(N.getD a dF).2.2.2.1=((a+1+m1:Nat):Int)/\TRE N (a+1) m1 f c h1/\TRE N (a+1+m1) m2 c u h2/\h=1+bX h1 h2:=by
 cases H with
 | leaf h1 h2 h3 h4 h5 h6=>exact .inl ⟨rfl,rfl,h5,h6⟩
 | node g1 g2 g3 g4 g5 b1 b2=>exact .inr ⟨_,_,_,_,_,rfl,g4,g5,b1,b2,rfl⟩
theorem aRy {i:Int} {t:TR} {far pan:ZL} (h:PVIS i t far pan)(hk:¬(t.2.getD (tN i) dF).2.2.1 < 0):PVIS (t.2.getD (tN i) dF).2.2.1 t far pan/\t.2.length - tN (t.2.getD (tN i) dF).2.2.1 < t.2.length - tN i/\t.2.length - tN (t.2.getD (tN i) dF).2.2.2.1 < t.2.length - tN i:=by
 obtain⟨e0,e1,e2,m,f,u,hh,e3,e4,e5,e6,e7⟩:=h;have hb:=kY e3;rcases aDh e3 with⟨_,_,h5,_⟩ | ⟨m1,m2,c,h1,h2,e8,g4,g5,b1,b2,e9⟩
 ·omega
 ·have l1:=kY b1;have l2:=kY b2;refine⟨⟨by omega,e1,e2,m1,f,c,h1,?_,e4,by omega,e6,e7⟩,by omega,by omega⟩;rw [g4,iH];exact b1
def F49 (a0:Zt):Bool := (bif (vI a0.1 (-256) 256)then(bif (vI a0.2.1 (-256) 256)then(vI a0.2.2 (-256) 256)else false)else false)
theorem C49 (a0:Zt):Con Tryz.prog 49 [(.a (k3 a0))] [] (.v (.bool (F49 a0))) []:=by
 refine cS Tryz.func49 fun cx hcx=>?_
 let t0:SL:=[.c [] (C23 a0.1 (-256) 256)];cases h0:(vI a0.1 (-256) 256)
 case true=>
  let t1:SL:=t0++[.d h0,.c [] (C23 a0.2.1 (-256) 256)];cases h1:(vI a0.2.1 (-256) 256)
  case true=>have e:=Eq.refl (F49 a0);(conv at e=>rhs;simp only [F49,h0,h1,aQ]);rw [e];exact rT (t1++[.d h1,.c [] (C23 a0.2.2 (-256) 256)]) hcx
  have e:=Eq.refl (F49 a0);(conv at e=>rhs;simp only [F49,h0,h1,aQ]);rw [e];exact rT (t1++[.d h1]) hcx
 have e:=Eq.refl (F49 a0);(conv at e=>rhs;simp only [F49,h0,aQ]);rw [e];exact rT (t0++[.d h0]) hcx
def F27 (a0 a1:Zt):Zt := ((W (a0.1 - a1.1)),(W (a0.2.1 - a1.2.1)),(W (a0.2.2 - a1.2.2)))
theorem C27 (a0 a1:Zt):Con Tryz.prog 27 [(.a (k3 a0)),(.a (k3 a1))] [] (.a (k3 (F27 a0 a1))) []:=by
 refine cS Tryz.func27 fun cx hcx=>?_
 have e:=Eq.refl (F27 a0 a1);(conv at e=>rhs;simp only [F27]);rw [e];exact rT [] hcx
def F90 (a0:Zt):Int := (W ((W ((W (a0.1*a0.1))+(W (a0.2.1*a0.2.1))))+(W (a0.2.2*a0.2.2))))
theorem C90 (a0:Zt):Con Tryz.prog 90 [(.a (k3 a0))] [] (iv (F90 a0)) []:=by
 refine cS Tryz.func90 fun cx hcx=>?_
 have e:=Eq.refl (F90 a0);(conv at e=>rhs;simp only [F90]);rw [e];exact rT [] hcx
def tV (a0:Int)(a1:ZL×eB)(a2:Zt)(a3:Int)(a4 a5:ZL):=(F27 a2 (a1.2.getD (tN a0) dF).2.2.2.2.1)
def rH (rr:(Int)->(ZL×eB)->Zt->(Int)->ZL->ZL->ZL×ZL)(a0:Int)(a1:ZL×eB)(a2:Zt)(a3:Int)(a4 a5:ZL):=(rr (a1.2.getD (tN a0) dF).2.2.1 (a1.1,a1.2) a2 a3 a4 a5)
def aDi (rr:(Int)->(ZL×eB)->Zt->(Int)->ZL->ZL->ZL×ZL)(a0:Int)(a1:ZL×eB)(a2:Zt)(a3:Int)(a4 a5:ZL):=(rr (a1.2.getD (tN a0) dF).2.2.2.1 (a1.1,a1.2) a2 a3 (rH (rr) a0 a1 a2 a3 a4 a5).1 (rH (rr) a0 a1 a2 a3 a4 a5).2)
def oA:Nat->(Int)->(ZL×eB)->Zt->(Int)->ZL->ZL->ZL×ZL | 0,_,_,_,_,_,_=>dF | nr+1,a0,a1,a2,a3,a4,a5 => (bif (decide (((W ((W ((a1.2.getD (tN a0) dF).2.2.2.2.2*a3))*a3)):Int)<=(F90 (tV a0 a1 a2 a3 a4 a5))))then(bif (decide (((a1.2.getD (tN a0) dF).2.2.2.2.2:Int) < (F90 (tV a0 a1 a2 a3 a4 a5))))then((a4++[a0]),a5)else(bif (decide (((a1.2.getD (tN a0) dF).2.2.1:Int) < 0))then(a4,(a5++(Aw.part (a1.1) ((a1.2.getD (tN a0) dF).1) ((a1.2.getD (tN a0) dF).2.1))))else((aDi (oA nr) a0 a1 a2 a3 a4 a5).1,(aDi (oA nr) a0 a1 a2 a3 a4 a5).2)))else(bif (decide (((a1.2.getD (tN a0) dF).2.2.1:Int) < 0))then(a4,(a5++(Aw.part (a1.1) ((a1.2.getD (tN a0) dF).1) ((a1.2.getD (tN a0) dF).2.1))))else((aDi (oA nr) a0 a1 a2 a3 a4 a5).1,(aDi (oA nr) a0 a1 a2 a3 a4 a5).2)))
def F89 (a0:Int)(a1:ZL×eB)(a2:Zt)(a3:Int)(a4 a5:ZL):ZL×ZL:=oA ((a1.2.length - tN a0)+1) a0 a1 a2 a3 a4 a5
theorem aA7:∀(nr:Nat) (i:Int) (t:TR) (x:Zt) (sep:Int) (far pan:ZL) (m:Nat) (f u h:Int),TRE t.2 (tN i) m f u h->0<=i->0<=f->u<=t.1.length->far.length<=f->pan.length<=f->t.2.length - tN i < nr ->
 (oA nr i t x sep far pan).1.length<=u/\(oA nr i t x sep far pan).2.length<=u
 | 0,_,_,_,_,_,_,_,_,_,_,_,_,_,_,_,_,h=>absurd h (fW _)
 | nr+1,i,t,x,sep,far,pan,m,f,u,h,H,h0,hf,hu,g1,g2,hn=>by
  have hb:=kY H;simp only [oA];have hfar:(far++[i]).length<=u/\(pan.length:Int)<=u:=by rw [List.length_append,List.length_singleton];omega
  have hpan:((far.length:Int)<=u)/\((pan++Aw.part t.1 (t.2.getD (tN i) dF).1 (t.2.getD (tN i) dF).2.1).length:Int)<=u:=by
   rw [List.length_append,cD (by omega)];omega
  have hrec:¬(t.2.getD (tN i) dF).2.2.1 < 0->((aDi (oA nr) i t x sep far pan).1.length:Int)<=u/\((aDi (oA nr) i t x sep far pan).2.length:Int)<=u:=by
   intro hk;rcases aDh H with⟨_,_,h5,_⟩ | ⟨m1,m2,c,h1,h2,e8,g4,g5,b1,b2,e9⟩
   ·omega
   ·have l1:=kY b1;have l2:=kY b2;have c1:=aA7 nr (t.2.getD (tN i) dF).2.2.1 t x sep far pan m1 f c h1 (by rw [g4,iH];exact b1) (by omega) hf (by omega) g1 g2 (by omega);exact aA7 nr (t.2.getD (tN i) dF).2.2.2.1 t x sep (rH (oA nr) i t x sep far pan).1 (rH (oA nr) i t x sep far pan).2 m2 c u h2 (by rw [g5,iH];exact b2) (by omega) (by omega) hu c1.1 c1.2 (by omega)
  repeat' (rw [Bool.cond_eq_ite];split)
  all_goals first | exact hfar | exact hpan | (refine hrec ?_;rename_i hq;exact dO (eq_false_of_ne_true hq))
theorem aRz {nr:Nat} {i:Int} {t:TR} {x:Zt} {sep:Int} {far pan:ZL} (h:PVIS i t far pan)(hlt:t.2.length - tN i < nr+1)(hk:¬(t.2.getD (tN i) dF).2.2.1 < 0) :
 PVIS (t.2.getD (tN i) dF).2.2.2.1 t (rH (oA nr) i t x sep far pan).1 (rH (oA nr) i t x sep far pan).2:=by
 obtain⟨e0,e1,e2,m,f,u,hh,e3,e4,e5,e6,e7⟩:=h;have hb:=kY e3;rcases aDh e3 with⟨_,_,h5,_⟩ | ⟨m1,m2,c,h1,h2,e8,g4,g5,b1,b2,e9⟩
 ·omega
 ·have l1:=kY b1;have l2:=kY b2;have c1:=aA7 nr (t.2.getD (tN i) dF).2.2.1 t x sep far pan m1 f c h1 (by rw [g4,iH];exact b1) (by omega) e4 (by omega) e6 e7 (by omega);exact⟨by omega,e1,e2,m2,c,u,h2,by rw [g5,iH];exact b2,by omega,e5,c1.1,c1.2⟩
theorem aR0 {nr:Nat} {i:Int} {t:TR} {far pan:ZL} (x:Zt)(sep:Int)(h:PVIS i t far pan)(hlt:t.2.length - tN i < nr+1)(hk:¬(t.2.getD (tN i) dF).2.2.1 < 0) :
 (t.2.length - tN (t.2.getD (tN i) dF).2.2.1 < nr/\t.2.length - tN (t.2.getD (tN i) dF).2.2.2.1 < nr)/\((rH (oA nr) i t x sep far pan).1.length<=1048576/\(rH (oA nr) i t x sep far pan).2.length<=1048576):=by
 have h1:=aRy h hk;have h2:=aRz (x:=x) (sep:=sep) h hlt hk;have h3:=aGs h2;have h4:=h2.e1;omega
theorem bC3:∀(nr:Nat) (a0:Int) (a1:ZL×eB) (a2:Zt) (a3:Int) (a4 a5:ZL) (l1_1:a1.1.length<=2^63-1) (l1_2:a1.2.length<=2^63-1) (l4:a4.length<=2^63-1) (l5:a5.length<=2^63-1) (hp:PVIS a0 a1 a4 a5),(a1.2.length - tN a0) < nr->Con Tryz.prog 89 [(iv a0),(.p 0 0),(.p 3 0),(.p 4 0),(.p 5 0),(.p 7 0),(.p 9 0)] [(.live false false [(.s 1 0 a1.1.length 1),(.s 2 0 a1.2.length 8)]),(.live false true (flat c3 a1.1)),(.live false true (flat fP a1.2)),(.live false false (k3 a2)),(.live false false [(iv a3)]),(.live true false [(.s 6 0 a4.length 1)]),(.live true true (flat c3 a4)),(.live true false [(.s 8 0 a5.length 1)]),(.live true true (flat c3 a5)),(.live false false [(.f 89 [(.p 0 0),(.p 3 0),(.p 4 0),(.p 5 0),(.p 7 0),(.p 9 0)])])] (.t []) [(.live true true (flat c3 (oA nr a0 a1 a2 a3 a4 a5).1)),(.live true true (flat c3 (oA nr a0 a1 a2 a3 a4 a5).2))] [.un,.un,.un,.un,.un,(.live true false [(.s 10 0 (oA nr a0 a1 a2 a3 a4 a5).1.length 1)]),.dead,(.live true false [(.s 11 0 (oA nr a0 a1 a2 a3 a4 a5).2.length 1)]),.dead,.un]:=by
 intro nr
 induction nr with
 | zero=>intro a0 a1 a2 a3 a4 a5 l1_1 l1_2 l4 l5 hp hlt;exact absurd hlt (fW _)
 | succ nr ihr =>
 intro a0 a1 a2 a3 a4 a5 l1_1 l1_2 l4 l5 hp hlt;refine cS Tryz.func89 fun cx hcx=>?_
 have hpb:=aGs hp;have hp1:=hp.e0;have hp2:=hp.e1;have hp3:=hp.e2;have hL:=fun q=>(aRy hp q).1
 have hM:=fun q=>aRz (x:=a2) (sep:=a3) hp hlt q
 have hN:=aR0 a2 a3 hp hlt;let t0:SL:=[.i a0 (a1.2.length),.L hU a1.2 a0 0 8,.c [] (C27 a2 (a1.2.getD (tN a0) dF).2.2.2.2.1),.c [] (C90 (tV a0 a1 a2 a3 a4 a5))];cases h0:(decide (((W ((W ((a1.2.getD (tN a0) dF).2.2.2.2.2*a3))*a3)):Int)<=(F90 (tV a0 a1 a2 a3 a4 a5))))
 case true=>
  have q0:=dE h0;let t1:SL:=t0++[.d h0];cases h1:(decide (((a1.2.getD (tN a0) dF).2.2.2.2.2:Int) < (F90 (tV a0 a1 a2 a3 a4 a5))))
  case true=>
   have q1:=dE h1;have e:=Eq.refl (oA (nr+1) a0 a1 a2 a3 a4 a5);(conv at e=>rhs;simp only [oA,h0,h1,aQ]);rw [e]
   try dsimp only [bZ]
   try dsimp only
   rw [show flat c3 (a4++[a0])=(flat c3 a4++[(iv a0)]) from eJ]
   try rw [show List.length (α:=Int) (a4++[a0])=(a4.length+1) from by first | simp;done | omega]
   exact rtn (t1++[.d h1,.p (show((flat c3 a4).length=a4.length*1/\a4.length+1<=2 ^ 40/\(a4.length+1)*8<=2 ^ 47) from rS aB (by omega) (by omega))]) [.mv 7 0] [5,6,7,8] [12,13] hcx (by kernel_rfl)
  have q1:=dO h1;let t2:SL:=t1++[.d h1];cases h2:(decide (((a1.2.getD (tN a0) dF).2.2.1:Int) < 0))
  case true=>
   have q2:=dE h2;have e:=Eq.refl (oA (nr+1) a0 a1 a2 a3 a4 a5);(conv at e=>rhs;simp only [oA,h0,h1,h2,aQ]);rw [e]
   try dsimp only [bZ]
   try dsimp only
   rw [show flat c3 (a5++(Aw.part (a1.1) ((a1.2.getD (tN a0) dF).1) ((a1.2.getD (tN a0) dF).2.1)))=((flat c3 a5)++(flat c3 (Aw.part (a1.1) ((a1.2.getD (tN a0) dF).1) ((a1.2.getD (tN a0) dF).2.1)))) from Eq.symm (by simp [flat])]
   try rw [show List.length (α:=Int) (a5++(Aw.part (a1.1) ((a1.2.getD (tN a0) dF).1) ((a1.2.getD (tN a0) dF).2.1)))=(a5.length+(tN (a1.2.getD (tN a0) dF).2.1 - tN (a1.2.getD (tN a0) dF).1)) from by first | simp;done | omega | (rw [List.length_append,cD (by omega)];done)]
   exact rtn (t2++[.d h2,.S aB (a1.1) ((a1.2.getD (tN a0) dF).1) ((a1.2.getD (tN a0) dF).2.1) (a1.1.length),.p (show((flat c3 a5).length=a5.length*1/\(flat c3 (Aw.part (a1.1) ((a1.2.getD (tN a0) dF).1) ((a1.2.getD (tN a0) dF).2.1))).length=(tN (a1.2.getD (tN a0) dF).2.1 - tN (a1.2.getD (tN a0) dF).1)*1/\(flat c3 (Aw.part (a1.1) ((a1.2.getD (tN a0) dF).1) ((a1.2.getD (tN a0) dF).2.1))).all SV.one=true/\a5.length+(tN (a1.2.getD (tN a0) dF).2.1 - tN (a1.2.getD (tN a0) dF).1)<=2 ^ 40/\(a5.length+(tN (a1.2.getD (tN a0) dF).2.1 - tN (a1.2.getD (tN a0) dF).1))*8<=2 ^ 47) from by refine⟨?_,?_,?_,?_,?_⟩<;>first | omega | exact aIz (fun _=>rfl) | (simp [nX aB];done) | (simp [nX aB];omega) | (rw [nX aB,cD (by omega)];first | done | omega))]) [.mv 5 0] [5,6,7,8] [13,12] hcx (by kernel_rfl)
  have q2:=dO h2;have e:=Eq.refl (oA (nr+1) a0 a1 a2 a3 a4 a5);(conv at e=>rhs;simp only [oA,h0,h1,h2,aQ]);rw [e]
  try dsimp only [bZ]
  try dsimp only
  exact rtn (t2++[.d h2,.c [0,1,2,3,4,5,6,7,8,9] (ihr (a1.2.getD (tN a0) dF).2.2.1 (a1.1,a1.2) a2 a3 a4 a5 (by omega) (by omega) (by omega) (by omega) (by first | exact hL (by assumption) | exact hM (by assumption)) (by first | exact(hN (by assumption)).1.1 | exact(hN (by assumption)).1.2)),.c [0,1,2,3,4,5,11,7,12,9] (ihr (a1.2.getD (tN a0) dF).2.2.2.1 (a1.1,a1.2) a2 a3 (rH (oA nr) a0 a1 a2 a3 a4 a5).1 (rH (oA nr) a0 a1 a2 a3 a4 a5).2 (by omega) (by omega) (by omega) (by omega) (by first | exact hL (by assumption) | exact hM (by assumption)) (by first | exact(hN (by assumption)).1.1 | exact(hN (by assumption)).1.2))]) [] [5,6,7,8] [13,14] hcx (by kernel_rfl)
 have q0:=dO h0;let t1:SL:=t0++[.d h0];cases h1:(decide (((a1.2.getD (tN a0) dF).2.2.1:Int) < 0))
 case true=>
  have q1:=dE h1;have e:=Eq.refl (oA (nr+1) a0 a1 a2 a3 a4 a5);(conv at e=>rhs;simp only [oA,h0,h1,aQ]);rw [e]
  try dsimp only [bZ]
  try dsimp only
  rw [show flat c3 (a5++(Aw.part (a1.1) ((a1.2.getD (tN a0) dF).1) ((a1.2.getD (tN a0) dF).2.1)))=((flat c3 a5)++(flat c3 (Aw.part (a1.1) ((a1.2.getD (tN a0) dF).1) ((a1.2.getD (tN a0) dF).2.1)))) from Eq.symm (by simp [flat])]
  try rw [show List.length (α:=Int) (a5++(Aw.part (a1.1) ((a1.2.getD (tN a0) dF).1) ((a1.2.getD (tN a0) dF).2.1)))=(a5.length+(tN (a1.2.getD (tN a0) dF).2.1 - tN (a1.2.getD (tN a0) dF).1)) from by first | simp;done | omega | (rw [List.length_append,cD (by omega)];done)]
  exact rtn (t1++[.d h1,.S aB (a1.1) ((a1.2.getD (tN a0) dF).1) ((a1.2.getD (tN a0) dF).2.1) (a1.1.length),.p (show((flat c3 a5).length=a5.length*1/\(flat c3 (Aw.part (a1.1) ((a1.2.getD (tN a0) dF).1) ((a1.2.getD (tN a0) dF).2.1))).length=(tN (a1.2.getD (tN a0) dF).2.1 - tN (a1.2.getD (tN a0) dF).1)*1/\(flat c3 (Aw.part (a1.1) ((a1.2.getD (tN a0) dF).1) ((a1.2.getD (tN a0) dF).2.1))).all SV.one=true/\a5.length+(tN (a1.2.getD (tN a0) dF).2.1 - tN (a1.2.getD (tN a0) dF).1)<=2 ^ 40/\(a5.length+(tN (a1.2.getD (tN a0) dF).2.1 - tN (a1.2.getD (tN a0) dF).1))*8<=2 ^ 47) from by refine⟨?_,?_,?_,?_,?_⟩<;>first | omega | exact aIz (fun _=>rfl) | (simp [nX aB];done) | (simp [nX aB];omega) | (rw [nX aB,cD (by omega)];first | done | omega))]) [.mv 5 0] [5,6,7,8] [13,12] hcx (by kernel_rfl)
 have q1:=dO h1;have e:=Eq.refl (oA (nr+1) a0 a1 a2 a3 a4 a5);(conv at e=>rhs;simp only [oA,h0,h1,aQ]);rw [e]
 try dsimp only [bZ]
 try dsimp only
 exact rtn (t1++[.d h1,.c [0,1,2,3,4,5,6,7,8,9] (ihr (a1.2.getD (tN a0) dF).2.2.1 (a1.1,a1.2) a2 a3 a4 a5 (by omega) (by omega) (by omega) (by omega) (by first | exact hL (by assumption) | exact hM (by assumption)) (by first | exact(hN (by assumption)).1.1 | exact(hN (by assumption)).1.2)),.c [0,1,2,3,4,5,11,7,12,9] (ihr (a1.2.getD (tN a0) dF).2.2.2.1 (a1.1,a1.2) a2 a3 (rH (oA nr) a0 a1 a2 a3 a4 a5).1 (rH (oA nr) a0 a1 a2 a3 a4 a5).2 (by omega) (by omega) (by omega) (by omega) (by first | exact hL (by assumption) | exact hM (by assumption)) (by first | exact(hN (by assumption)).1.1 | exact(hN (by assumption)).1.2))]) [] [5,6,7,8] [13,14] hcx (by kernel_rfl)
theorem C89 (a0:Int)(a1:ZL×eB)(a2:Zt)(a3:Int)(a4 a5:ZL)(l1_1:a1.1.length<=2^63-1)(l1_2:a1.2.length<=2^63-1)(l4:a4.length<=2^63-1)(l5:a5.length<=2^63-1)(hp:PVIS a0 a1 a4 a5):Con Tryz.prog 89 [(iv a0),(.p 0 0),(.p 3 0),(.p 4 0),(.p 5 0),(.p 7 0),(.p 9 0)] [(.live false false [(.s 1 0 a1.1.length 1),(.s 2 0 a1.2.length 8)]),(.live false true (flat c3 a1.1)),(.live false true (flat fP a1.2)),(.live false false (k3 a2)),(.live false false [(iv a3)]),(.live true false [(.s 6 0 a4.length 1)]),(.live true true (flat c3 a4)),(.live true false [(.s 8 0 a5.length 1)]),(.live true true (flat c3 a5)),(.live false false [(.f 89 [(.p 0 0),(.p 3 0),(.p 4 0),(.p 5 0),(.p 7 0),(.p 9 0)])])] (.t []) [(.live true true (flat c3 (F89 a0 a1 a2 a3 a4 a5).1)),(.live true true (flat c3 (F89 a0 a1 a2 a3 a4 a5).2))] [.un,.un,.un,.un,.un,(.live true false [(.s 10 0 (F89 a0 a1 a2 a3 a4 a5).1.length 1)]),.dead,(.live true false [(.s 11 0 (F89 a0 a1 a2 a3 a4 a5).2.length 1)]),.dead,.un]:=bC3 ((a1.2.length - tN a0)+1) a0 a1 a2 a3 a4 a5 l1_1 l1_2 l4 l5 hp (lss _)
noncomputable def aGt:=dK [1,1,1,0,1,0] [] (aX Tryz.f50)
def aNj (a0:ZL×eB)(a1:Zt)(a2:Int)(v1c:List SV)(v1n:Nat)(v2c:List SV)(v2n:Nat):LS:=⟨jT 18 [(6,(.p 2 0)),(7,(.p 3 0)),(8,(.p 4 0))],[(.live false true (flat c3 a0.1)),(.live false true (flat fP a0.2)),(.live true false [(.s 5 0 v1n 1)]),(.live true false [(.s 6 0 v2n 1)]),(.live true false [(.f 89 [(.p 7 0),(.p 8 0),(.p 9 0),(.p 2 0),(.p 3 0),(.p 4 0)])]),(.live true true v1c),(.live true true v2c),(.live true false [(.s 0 0 a0.1.length 1),(.s 1 0 a0.2.length 8)]),(.live true false (k3 a1)),(.live true false [(iv a2)])]⟩
def sB (a0:ZL×eB)(a1:Zt)(a2:Int):ZL×ZL->ZL×ZL | (v1,v2) => ((F89 0 (a0.1,a0.2) a1 a2 v1 v2).1,(F89 0 (a0.1,a0.2) a1 a2 v1 v2).2)
theorem aX2 (a0:ZL×eB)(a1:Zt)(a2:Int)(l0_1:a0.1.length<=2^63-1)(l0_2:a0.2.length<=2^63-1)(hp:0 < a0.2.length->PVIS 0 a0 [] []) {cx:Cx} (hcx:cx.base=2)(v1 v2:ZL):PVIS 0 a0 v1 v2->gG Tryz.f50 cx (.t [(.s 2 0 (sB a0 a1 a2 (v1,v2)).1.length 1),(.s 3 0 (sB a0 a1 a2 (v1,v2)).2.length 1)]) [(.live true true (flat c3 (sB a0 a1 a2 (v1,v2)).1)),(.live true true (flat c3 (sB a0 a1 a2 (v1,v2)).2))] [] (.c aGt.1::aGt.2) (aNj a0 a1 a2 (flat c3 v1) v1.length (flat c3 v2) v2.length):=by
 intro hi;have hb:=aGs hi;have hb2:=hi.e1;have e:=Eq.refl (sB a0 a1 a2 (v1,v2));(conv at e=>rhs;simp only [sB]);rw [e];exact rt [.c [7,0,1,8,9,2,5,3,6,4] (C89 0 (a0.1,a0.2) a1 a2 v1 v2 (by omega) (by omega) (by omega) (by omega) hi)] [] [10,11] hcx (by kernel_rfl)
def F50 (a0:ZL×eB)(a1:Zt)(a2:Int):ZL×ZL := (bif (decide (((a0.2.length:Int):Int) > 0))then(sB a0 a1 a2 (([]:ZL),([]:ZL)))else(([]:ZL),([]:ZL)))
theorem C50 (a0:ZL×eB)(a1:Zt)(a2:Int)(l0_1:a0.1.length<=2^63-1)(l0_2:a0.2.length<=2^63-1)(hp:0 < a0.2.length->PVIS 0 a0 [] []):Con Tryz.prog 50 [(.a [(.s 0 0 a0.1.length 1),(.s 1 0 a0.2.length 8)]),(.a (k3 a1)),(iv a2)] [(.live false true (flat c3 a0.1)),(.live false true (flat fP a0.2))] (.t [(.s 2 0 (F50 a0 a1 a2).1.length 1),(.s 3 0 (F50 a0 a1 a2).2.length 1)]) [(.live true true (flat c3 (F50 a0 a1 a2).1)),(.live true true (flat c3 (F50 a0 a1 a2).2))]:=by
 refine cS Tryz.func50 fun cx hcx=>?_
 cases h0:(decide (((a0.2.length:Int):Int) > 0))
 case true=>have q0:=dE h0;have e:=Eq.refl (F50 a0 a1 a2);(conv at e=>rhs;simp only [F50,h0,aQ]);rw [e];refine ga [.d h0,.z 4] [.cell 5 0 1,.cell 6 0 1] [6,7,8] [5,6,7,8,9,2,3,4] hcx aGt.1 aGt.2 (aNj a0 a1 a2 (flat c3 ([]:ZL)) 0 (flat c3 ([]:ZL)) 0) (by kernel_rfl) ?_;exact aX2 a0 a1 a2 l0_1 l0_2 hp hcx ([]:ZL) ([]:ZL) (hp (by omega))
 have q0:=dO h0;have e:=Eq.refl (F50 a0 a1 a2);(conv at e=>rhs;simp only [F50,h0,aQ]);rw [e];exact rt [.d h0] [.cell 5 0 1,.cell 6 0 1] [8,9] hcx (by kernel_rfl)
def nI (a0:cC)(a1:ZL×eB)(a2:Int):Int := (bif (((tU a0 (a1.1,a1.2)):Int) != 0)then(tU a0 (a1.1,a1.2))else(bif (!(vI a2 1 16))then 1 else 0))
theorem bAo (a0:cC)(a1:ZL×eB)(a2:Int)(l0:a0.length<=2^63-1)(l1_1:a1.1.length<=2^63-1)(l1_2:a1.2.length<=2^63-1):Con Tryz.prog 48 [(.s 0 0 a0.length 10),(.a [(.s 1 0 a1.1.length 1),(.s 2 0 a1.2.length 8)]),(iv a2)] [(.live false true (flat fJ a0)),(.live false true (flat c3 a1.1)),(.live false true (flat fP a1.2))] (iv (nI a0 a1 a2)) []:=by
 refine cS Tryz.func48 fun cx hcx=>?_
 let t0:SL:=[.c [0,1,2] (bAm a0 (a1.1,a1.2) (by omega) (by omega) (by omega))];cases h0:(((tU a0 (a1.1,a1.2)):Int) != 0)
 case true=>have q0:=bne_iff_ne.1 h0;have e:=Eq.refl (nI a0 a1 a2);(conv at e=>rhs;simp only [nI,h0,aQ]);rw [e];exact rT (t0++[.d h0]) hcx
 have q0:=bne_eq_false_iff_eq.1 h0;let t1:SL:=t0++[.d h0,.c [] (C23 a2 1 16)];cases h1:(!(vI a2 1 16))
 case true=>have e:=Eq.refl (nI a0 a1 a2);(conv at e=>rhs;simp only [nI,h0,h1,aQ]);rw [e];exact rT (t1++[.d h1]) hcx
 have e:=Eq.refl (nI a0 a1 a2);(conv at e=>rhs;simp only [nI,h0,h1,aQ]);rw [e];exact rT (t1++[.d h1]) hcx
def aR1 (t:TR):Prop:=t.1.length<=1048576/\t.2.length<=1048576/\∀i:Nat,i < t.2.length->0<=(t.2.getD i dF).1/\(t.2.getD i dF).1 < (t.2.getD i dF).2.1/\(t.2.getD i dF).2.1<=t.1.length
theorem aA8 (l:fV)(hl:l.length<=96) {leaf:Int} (h1:1<=leaf):aR1 (BT l leaf):=by
 have hb:=rX l hl h1;refine⟨by omega,by omega,fun i hi=>?_⟩;have:=bAn l h1 _ (List.getElem_mem hi);rw [fS,List.getElem?_eq_getElem hi];simp only [Option.getD_some];obtain⟨c1,c2,c3,_⟩:=this;omega
theorem aR2 {l:fV} {t:TR} (h:aAe l t=0)(h0:0 < t.2.length):PVIS 0 t [] []:=by
 obtain⟨hv,leaf,h1,_,rfl⟩:=aGr h;have hb:=rX l hv.1 h1;have hl:=hv.1;rcases aLc l h1 with⟨_,e⟩ | ⟨hh,H⟩
 ·rw [e] at h0;exact absurd h0 (Nat.lt_irrefl _)
 ·exact⟨Int.le_refl _,by omega,by omega,_,_,_,_,H,Int.le_refl _,by omega,by simp,by simp⟩
def aLd (t:TR)(x:Zt)(sep:Int)(a:Nat):Prop := W (W ((t.2.getD a dF).2.2.2.2.2*sep)*sep)<=F90 (F27 x (t.2.getD a dF).2.2.2.2.1)/\(t.2.getD a dF).2.2.2.2.2 < F90 (F27 x (t.2.getD a dF).2.2.2.2.1)
section
variable {t : TR} {x : Zt} {sep : Int} {a : Nat} {far pan : ZL} {d : Int}
theorem aNk {n:Nat} (h:aLd t x sep a):oA (n+1) (a:Int) t x sep far pan=(far++[(a:Int)],pan):=by
 simp only [oA,iH];rw [cL (show W (W ((t.2.getD a dF).2.2.2.2.2*sep)*sep)<=F90 (tV (a:Int) t x sep far pan) from h.1),cL (show(t.2.getD a dF).2.2.2.2.2 < F90 (tV (a:Int) t x sep far pan) from h.2)];rfl
theorem aR3 {n:Nat} (h:¬aLd t x sep a)(hl:(t.2.getD a dF).2.2.1 < 0):oA (n+1) (a:Int) t x sep far pan=(far,pan++Aw.part t.1 (t.2.getD a dF).1 (t.2.getD a dF).2.1):=by
 simp only [oA,iH];rw [cL hl];unfold aLd at h;by_cases h1:W (W ((t.2.getD a dF).2.2.2.2.2*sep)*sep)<=F90 (tV (a:Int) t x sep far pan)
 ·rw [cL h1,cV (show ¬((t.2.getD a dF).2.2.2.2.2 < F90 (tV (a:Int) t x sep far pan)) from fun h2=>h ⟨h1,h2⟩)];rfl
 ·rw [cV h1];rfl
theorem aR4 {n:Nat} (h:¬aLd t x sep a)(hl:¬(t.2.getD a dF).2.2.1 < 0):oA (n+1) (a:Int) t x sep far pan =
 oA n (t.2.getD a dF).2.2.2.1 t x sep (oA n (t.2.getD a dF).2.2.1 t x sep far pan).1 (oA n (t.2.getD a dF).2.2.1 t x sep far pan).2:=by
 simp only [oA,rH,aDi,iH];rw [cV hl];unfold aLd at h;by_cases h1:W (W ((t.2.getD a dF).2.2.2.2.2*sep)*sep)<=F90 (tV (a:Int) t x sep far pan)
 ·rw [cL h1,cV (show ¬((t.2.getD a dF).2.2.2.2.2 < F90 (tV (a:Int) t x sep far pan)) from fun h2=>h ⟨h1,h2⟩)];rfl
 ·rw [cV h1];rfl
end
end Go.Proofs.YtlffahoikfahlaaGreat
namespace Go.Proofs.YtlffahoikfahlaaGreat
open Go.Proofs Go.Aw Go.RowKit
set_option maxRecDepth 100000
theorem aR5 {l:fV} {t:TR} {sep:Int} (h:((nI l t sep:Int) != 0)=false):aAe l t=0:=by
 have h:=bne_eq_false_iff_eq.1 h;unfold nI at h;rw [←aRw];cases h0:((tU l (t.1,t.2):Int) != 0)
 case true=>rw [h0,cond_true] at h;exact h
 exact bne_eq_false_iff_eq.1 h0
def aC (a0:cC)(a1:ZL×eB)(a2:Zt)(a3:Int):ZL×ZL×Int := (bif (((nI a0 (a1.1,a1.2) a3):Int) != 0)then(([]:ZL),([]:ZL),(nI a0 (a1.1,a1.2) a3))else(bif (!(F49 a2))then(([]:ZL),([]:ZL),1)else((F50 (a1.1,a1.2) a2 a3).1,(F50 (a1.1,a1.2) a2 a3).2,0)))
theorem aV8 (a0:cC)(a1:ZL×eB)(a2:Zt)(a3:Int)(l0:a0.length<=2^63-1)(l1_1:a1.1.length<=2^63-1)(l1_2:a1.2.length<=2^63-1):Con Tryz.prog 22 [(.s 0 0 a0.length 10),(.a [(.s 1 0 a1.1.length 1),(.s 2 0 a1.2.length 8)]),(.a (k3 a2)),(iv a3)] [(.live false true (flat fJ a0)),(.live false true (flat c3 a1.1)),(.live false true (flat fP a1.2))] (.t [(.s 3 0 (aC a0 a1 a2 a3).1.length 1),(.s 4 0 (aC a0 a1 a2 a3).2.1.length 1),(iv (aC a0 a1 a2 a3).2.2)]) [(.live true true (flat c3 (aC a0 a1 a2 a3).1)),(.live true true (flat c3 (aC a0 a1 a2 a3).2.1))]:=by
 refine cS Tryz.func22 fun cx hcx=>?_
 let t0:SL:=[.c [0,1,2] (bAo a0 (a1.1,a1.2) a3 (by omega) (by omega) (by omega))];cases h0:(((nI a0 (a1.1,a1.2) a3):Int) != 0)
 case true=>have q0:=bne_iff_ne.1 h0;have e:=Eq.refl (aC a0 a1 a2 a3);(conv at e=>rhs;simp only [aC,h0,aQ]);rw [e];exact rt (t0++[.d h0]) [.slot 8 1,.slot 9 1] [5,6] hcx (by kernel_rfl)
 have q0:=bne_eq_false_iff_eq.1 h0;let t1:SL:=t0++[.d h0,.c [] (C49 a2)];cases h1:(!(F49 a2))
 case true=>have e:=Eq.refl (aC a0 a1 a2 a3);(conv at e=>rhs;simp only [aC,h0,h1,aQ]);rw [e];exact rt (t1++[.d h1]) [.slot 8 1,.slot 9 1] [5,6] hcx (by kernel_rfl)
 have e:=Eq.refl (aC a0 a1 a2 a3);(conv at e=>rhs;simp only [aC,h0,h1,aQ]);rw [e];exact rt (t1++[.d h1,.c [1,2] (C50 (a1.1,a1.2) a2 a3 (by omega) (by omega) (fun q=>aR2 (aR5 (by assumption)) q))]) [] [5,6] hcx (by kernel_rfl)
def aFh:Go.Shelf.Ren:=⟨fun | 134=>203 | 129=>191 | n=>n,fun | 53=>128 | 3=>3 | 4=>4 | 46=>122 | 5=>5 | 9=>9 | n=>n,fun | n=>n⟩
theorem bAp:Go.Proofs.Lays.n134 Tryz.prog aFh:={
 mixed:=by kernel_rfl
 f129:=Tryz.func191.trans (congrArg some (by kernel_rfl))
 f134:=Tryz.func203.trans (congrArg some (by kernel_rfl))
 t3:=Tryz.underlying3
 a3:=Tryz.isAgg3
 z3:=Tryz.sizeOf3
 v3:=Tryz.zeroValue3
 t4:=Tryz.underlying4
 a4:=Tryz.isAgg4
 z4:=Tryz.sizeOf4
 v4:=Tryz.zeroValue4
 t5:=Tryz.underlying5
 a5:=Tryz.isAgg5
 z5:=Tryz.sizeOf5
 v5:=Tryz.zeroValue5
 t9:=Tryz.underlying9
 a9:=Tryz.isAgg9
 z9:=Tryz.sizeOf9
 v9:=Tryz.zeroValue9
 t46:=Tryz.underlying122
 a46:=Tryz.isAgg122
 z46:=Tryz.sizeOf122
 v46:=Tryz.zeroValue122
 t53:=Tryz.underlying128
 a53:=Tryz.isAgg128
 z53:=Tryz.sizeOf128
 v53:=Tryz.zeroValue128 }
def cK (n:Int):Int:=64 - ((Lib.bitLen n.toNat:Nat):Int)
theorem bC4 (a0:Int)(hn:0<=a0/\a0<=18446744073709551615):Con Tryz.prog 203 [.v (.int .u64 a0)] [] (iv (cK a0)) []:=by
 refine⟨ent Tryz.func203 (by kernel_rfl) rfl,fun ρ W vs hr hb hpl hap hfz=>?_⟩
 match vs,hr with
 | [],hr=>simp [Rels] at hr
 | _::_::_,hr=>simp [Rels] at hr
 | [v1],hr =>
 simp only [Rels,and_true,Rel] at hr;subst hr;have h:=Any.bits_LeadingZeros64 (ρ:=aFh) bAp a0 W hn.1 hn.2;refine h.mono fun e w' ⟨he,hw⟩=>?_
 subst hw;have un1:∀m j,fY m ([]:List BK) [] j=.un:=fun m j=>by unfold fY;simp
 exact⟨ρ,_,he,fun _ _=>rfl,by simp only [iv,Rel];rfl,Kept.refl _ _,fun j=>by rw [un1];trivial,fun j=>by rw [un1];trivial,fun i j b n b' n' _ o1=>by rw [un1] at o1;exact o1.elim,ρ.le_refl,fun b o hb=>⟨(hfz b o hb).1,fun j m o1=>by rw [un1] at o1;exact o1.elim,.inl hb⟩⟩
structure DvP (hi lo y:Int):Prop where
 hy:0 < y/\y < 9223372036854775808
 hh:0<=hi/\hi < y
 hl:0<=lo/\lo < 18446744073709551616
theorem aO4 (n:Int):0<=iW .u64 n/\iW .u64 n < 18446744073709551616:=by rw [xJ];omega
theorem pH {n:Int} (h:0<=n/\n < 18446744073709551616):iW .u64 n=n:=by rw [xJ];omega
theorem aR6 {u y:Int} (hy:1<=y/\y < 4294967296)(hu:0<=u/\u < 18446744073709551616):iW .u64 (tD u y)=u / y/\iW .u64 (u - (iW .u64 ((iW .u64 (tD u y))*y)))=u - u / y*y/\0<=u - u / y*y/\u - u / y*y < y:=by
 have h1:=Int.mul_ediv_add_emod u y;have h2:=Int.emod_nonneg u (show y≠0 by omega);have h3:=Int.emod_lt_of_pos u (show 0 < y by omega);have h4:0<=u / y:=Int.ediv_nonneg hu.1 (by omega);have h5:u / y<=u:=Int.ediv_le_self _ hu.1;have hc:y*(u / y)=u / y*y:=Int.mul_comm _ _;have h6:0<=u / y*y:=Int.mul_nonneg h4 (by omega);have e1:iW .u64 (tD u y)=u / y:=by rw [Int.tdiv_eq_ediv_of_nonneg hu.1,pH (by omega)]
 refine⟨e1,?_,by omega,by omega⟩;rw [e1,pH (n:=u / y*y) (by omega),pH (by omega)]
theorem aV9 {u y:Int} (hy:1<=y/\y < 4294967296)(hu:0<=u/\u < 18446744073709551616):0<=iW .u64 (u - (iW .u64 ((iW .u64 (tD u y))*y)))/\iW .u64 (u - (iW .u64 ((iW .u64 (tD u y))*y))) < 4294967296:=by
 obtain⟨_,e,h1,h2⟩:=aR6 hy hu;rw [e];omega
theorem bAq {y:Int} (h:0 < y/\y < 9223372036854775808):∃k:Nat,cK y=((k:Nat):Int)/\1<=k/\k<=63/\9223372036854775808<=y*2 ^ k/\y*2 ^ k < 18446744073709551616:=by
 obtain⟨n,rfl⟩:∃n:Nat,y=(n:Int):=⟨y.toNat,by omega⟩;have hb:=Lib.bitLenAux_bounds 64 n (by omega) (by omega);have hl:=Lib.bitLen_le n 63 (by omega) (by omega);unfold cK;simp only [iH];change 1<=Lib.bitLen n/\2 ^ (Lib.bitLen n - 1)<=n/\n < 2 ^ Lib.bitLen n at hb;obtain⟨b1,b2,b3⟩:=hb;generalize Lib.bitLen n=b at *;refine⟨64 - b,by omega,by omega,by omega,?_,?_⟩
 ·have e:(2:Nat) ^ (b - 1)*2 ^ (64 - b)=9223372036854775808:=by
   rw [←Nat.pow_add,show b - 1+(64 - b)=63 by omega]
  have h1:(2:Nat) ^ (b - 1)*2 ^ (64 - b)<=n*2 ^ (64 - b):=Nat.mul_le_mul_right _ b2;have h2:(n:Int)*2 ^ (64 - b)=((n*2 ^ (64 - b):Nat):Int):=by push_cast;rfl
  rw [h2];omega
 ·have e:(2:Nat) ^ b*2 ^ (64 - b)=18446744073709551616:=by
   rw [←Nat.pow_add,show b+(64 - b)=64 by omega]
  have h1:n*2 ^ (64 - b) < 2 ^ b*2 ^ (64 - b):=Nat.mul_lt_mul_of_pos_right b3 (Nat.pow_pos (by omega));have h2:(n:Int)*2 ^ (64 - b)=((n*2 ^ (64 - b):Nat):Int):=by push_cast;rfl
  rw [h2];omega
theorem bAr {y:Int} {k:Nat} (h:cK y=((k:Nat):Int))(hk:k<=63):(min (tN (iW .u64 (cK y))) 64)=k:=by
 rw [h,pH (by omega),iH];omega
theorem bC5 {y:Int} (h:0 < y/\y < 9223372036854775808):1<=(fD (iW .u64 (y*2 ^ (min (tN (iW .u64 (cK y))) 64))) (2 ^ (min (tN 32) 64)))/\(fD (iW .u64 (y*2 ^ (min (tN (iW .u64 (cK y))) 64))) (2 ^ (min (tN 32) 64))) < 4294967296:=by
 obtain⟨k,h1,h2,h3,h4,h5⟩:=bAq h;rw [bAr h1 h3,pH (by omega),aKt];omega
noncomputable def aDj:=bC [1,1,1,1,1,1,1,1,1,1,1,1,1,1,1,1,1,1,0] [] (aX Tryz.f196) []
def aA9 (a0 a1 a2:Int)(v18 v19 v20 v21 v22 v23 v24 v25 v26:Int):LS:=⟨jT 135 [(2,(.v (.int .u64 v18))),(8,(.v (.int .u64 v19))),(9,(.v (.int .u64 v20))),(10,(.v (.int .u64 v21))),(14,(.v (.int .u64 v22))),(15,(.v (.int .u64 v23))),(16,(.v (.int .u64 v24))),(17,(.v (.int .u64 v25))),(18,(.v (.int .u64 v26)))],[]⟩
def iX (a0 a1 a2:Int):Int×Int×Int×Int×Int×Int×Zt->(Int×Int×Int×Int×Int×Int×Zt)⊕Zs | (v18,v19,v20,v21,v22,v23,v24,v25,v26) => (bif (decide ((v26:Int)≥4294967296))then(bif (decide (((iW .u64 (v24+v20)):Int)≥4294967296))then(.inr ((iW .u64 ((iW .u64 (v23*4294967296))+(iW .u64 (v26 - 1)))),(fD (iW .u64 ((iW .u64 ((iW .u64 (v25*4294967296))+v22)) - (iW .u64 ((iW .u64 (v26 - 1))*v18)))) (2 ^ (min (tN v19) 64)))))else(.inl (v18,v19,v20,v21,v22,v23,(iW .u64 (v24+v20)),v25,(iW .u64 (v26 - 1)))))else(bif (decide (((iW .u64 (v26*v21)):Int) > (iW .u64 ((iW .u64 (4294967296*v24))+v22))))then(bif (decide (((iW .u64 (v24+v20)):Int)≥4294967296))then(.inr ((iW .u64 ((iW .u64 (v23*4294967296))+(iW .u64 (v26 - 1)))),(fD (iW .u64 ((iW .u64 ((iW .u64 (v25*4294967296))+v22)) - (iW .u64 ((iW .u64 (v26 - 1))*v18)))) (2 ^ (min (tN v19) 64)))))else(.inl (v18,v19,v20,v21,v22,v23,(iW .u64 (v24+v20)),v25,(iW .u64 (v26 - 1)))))else(.inr ((iW .u64 ((iW .u64 (v23*4294967296))+v26)),(fD (iW .u64 ((iW .u64 ((iW .u64 (v25*4294967296))+v22)) - (iW .u64 (v26*v18)))) (2 ^ (min (tN v19) 64)))))))
noncomputable def tW:=dK [1,1,1,1,1,1,1,1,1,1,1,1,1,1,1,0] [] (aX Tryz.f196)
def uM (a0 a1 a2:Int)(v10 v11 v12 v13 v14 v15 v16 v17:Int):LS:=⟨jT 135 [(2,(.v (.int .u64 v10))),(8,(.v (.int .u64 v11))),(9,(.v (.int .u64 v12))),(10,(.v (.int .u64 v13))),(11,(.v (.int .u64 v14))),(13,(.v (.int .u64 v15))),(14,(.v (.int .u64 v16))),(15,(.v (.int .u64 v17)))],[]⟩
def gK (a0 a1 a2:Int):Int×Int×Int×Int×Int×Zt->Zs | (v10,v11,v12,v13,v14,v15,v16,v17) => (aE (iX a0 a1 a2) (tN (4294967296 - (iW .u64 ((iW .u64 ((iW .u64 ((iW .u64 (v14*4294967296))+v15)) - (iW .u64 (v17*v10)))) - (iW .u64 ((iW .u64 (tD (iW .u64 ((iW .u64 ((iW .u64 (v14*4294967296))+v15)) - (iW .u64 (v17*v10)))) v12))*v12)))))+1) (v10,v11,v12,v13,v16,v17,(iW .u64 ((iW .u64 ((iW .u64 ((iW .u64 (v14*4294967296))+v15)) - (iW .u64 (v17*v10)))) - (iW .u64 ((iW .u64 (tD (iW .u64 ((iW .u64 ((iW .u64 (v14*4294967296))+v15)) - (iW .u64 (v17*v10)))) v12))*v12)))),(iW .u64 ((iW .u64 ((iW .u64 (v14*4294967296))+v15)) - (iW .u64 (v17*v10)))),(iW .u64 (tD (iW .u64 ((iW .u64 ((iW .u64 (v14*4294967296))+v15)) - (iW .u64 (v17*v10)))) v12))))
noncomputable def aDk:=bC [1,1,1,1,1,1,1,1,1,1,1,1,1,1,0] [] (aX Tryz.f196) []
def aBa (a0 a1 a2:Int)(v1 v2 v3 v4 v5 v6 v7 v8 v9:Int):LS:=⟨jT 135 [(2,(.v (.int .u64 v1))),(8,(.v (.int .u64 v2))),(9,(.v (.int .u64 v3))),(10,(.v (.int .u64 v4))),(11,(.v (.int .u64 v5))),(13,(.v (.int .u64 v6))),(14,(.v (.int .u64 v7))),(15,(.v (.int .u64 v8))),(16,(.v (.int .u64 v9)))],[]⟩
def iY (a0 a1 a2:Int):Int×Int×Int×Int×Int×Int×Zt->(Int×Int×Int×Int×Int×Int×Zt)⊕Zs | (v1,v2,v3,v4,v5,v6,v7,v8,v9) => (bif (decide ((v8:Int)≥4294967296))then(bif (decide (((iW .u64 (v9+v3)):Int)≥4294967296))then(.inr (gK a0 a1 a2 (v1,v2,v3,v4,v5,v6,v7,(iW .u64 (v8 - 1)))))else(.inl (v1,v2,v3,v4,v5,v6,v7,(iW .u64 (v8 - 1)),(iW .u64 (v9+v3)))))else(bif (decide (((iW .u64 (v8*v4)):Int) > (iW .u64 ((iW .u64 (4294967296*v9))+v6))))then(bif (decide (((iW .u64 (v9+v3)):Int)≥4294967296))then(.inr (gK a0 a1 a2 (v1,v2,v3,v4,v5,v6,v7,(iW .u64 (v8 - 1)))))else(.inl (v1,v2,v3,v4,v5,v6,v7,(iW .u64 (v8 - 1)),(iW .u64 (v9+v3)))))else(.inr (gK a0 a1 a2 (v1,v2,v3,v4,v5,v6,v7,v8)))))
theorem aX3 (a0 a1 a2:Int)(hy:DvP a0 a1 a2) {cx:Cx} (hcx:cx.base=0):∀(n:Nat) (v18 v19 v20 v21 v22 v23 v24 v25 v26:Int),(1<=v20)/\(v20 < 4294967296)/\(0<=v24)/\(v24 < 4294967296)/\(0<=v19)->tN (4294967296 - v24) < n->gG Tryz.f196 cx (.t [(.v (.int .u64 (aE (iX a0 a1 a2) n (v18,v19,v20,v21,v22,v23,v24,v25,v26)).1)),(.v (.int .u64 (aE (iX a0 a1 a2) n (v18,v19,v20,v21,v22,v23,v24,v25,v26)).2))]) [] [] (.l aDj.1 n::aDj.2) (aA9 a0 a1 a2 v18 v19 v20 v21 v22 v23 v24 v25 v26):=by
 intro n
 induction n with|zero=>intro v18 v19 v20 v21 v22 v23 v24 v25 v26 hi hn;exact absurd hn (fW _)|succ n ih=>?_
 intro v18 v19 v20 v21 v22 v23 v24 v25 v26 hi hn;refine aS ?_;have hu9:=xJ (v24+v20);cases h0:(decide ((v26:Int)≥4294967296))
 case true=>
  have q0:=dE h0;let t1:SL:=[.d h0];cases h1:(decide (((iW .u64 (v24+v20)):Int)≥4294967296))
  case true=>have q1:=dE h1;have e:=Eq.refl (iX a0 a1 a2 (v18,v19,v20,v21,v22,v23,v24,v25,v26));(conv at e=>rhs;simp only [iX,h0,h1,aQ]);rw [aJ,e];exact rT (t1++[.d h1,.p (show 0<=(v19:Int) from by first | omega | (rw [aG]<;>omega) | exact jF _)]) hcx
  have q1:=dO h1;have e:=Eq.refl (iX a0 a1 a2 (v18,v19,v20,v21,v22,v23,v24,v25,v26));(conv at e=>rhs;simp only [iX,h0,h1,aQ]);rw [aD e];refine bA n (t1++[.d h1]) [2,8,9,10,14,15,16,17,18] [] hcx aDj (aA9 a0 a1 a2 v18 v19 v20 v21 v22 v23 (iW .u64 (v24+v20)) v25 (iW .u64 (v26 - 1))) ?_;exact ih _ _ _ _ _ _ _ _ _ (by refine⟨?_,?_,?_,?_,?_⟩<;>(try simp only [Ls])<;>first | omega | assumption | simp) (by omega)
 have q0:=dO h0;let t1:SL:=[.d h0];cases h1:(decide (((iW .u64 (v26*v21)):Int) > (iW .u64 ((iW .u64 (4294967296*v24))+v22))))
 case true=>
  have q1:=dE h1;let t2:SL:=t1++[.d h1];cases h2:(decide (((iW .u64 (v24+v20)):Int)≥4294967296))
  case true=>have q2:=dE h2;have e:=Eq.refl (iX a0 a1 a2 (v18,v19,v20,v21,v22,v23,v24,v25,v26));(conv at e=>rhs;simp only [iX,h0,h1,h2,aQ]);rw [aJ,e];exact rT (t2++[.d h2,.p (show 0<=(v19:Int) from by first | omega | (rw [aG]<;>omega) | exact jF _)]) hcx
  have q2:=dO h2;have e:=Eq.refl (iX a0 a1 a2 (v18,v19,v20,v21,v22,v23,v24,v25,v26));(conv at e=>rhs;simp only [iX,h0,h1,h2,aQ]);rw [aD e];refine bA n (t2++[.d h2]) [2,8,9,10,14,15,16,17,18] [] hcx aDj (aA9 a0 a1 a2 v18 v19 v20 v21 v22 v23 (iW .u64 (v24+v20)) v25 (iW .u64 (v26 - 1))) ?_;exact ih _ _ _ _ _ _ _ _ _ (by refine⟨?_,?_,?_,?_,?_⟩<;>(try simp only [Ls])<;>first | omega | assumption | simp) (by omega)
 have q1:=dO h1;have e:=Eq.refl (iX a0 a1 a2 (v18,v19,v20,v21,v22,v23,v24,v25,v26));(conv at e=>rhs;simp only [iX,h0,h1,aQ]);rw [aJ,e];exact rT (t1++[.d h1,.p (show 0<=(v19:Int) from by first | omega | (rw [aG]<;>omega) | exact jF _)]) hcx
theorem aDl (a0 a1 a2:Int)(hy:DvP a0 a1 a2) {cx:Cx} (hcx:cx.base=0)(v10 v11 v12 v13 v14 v15 v16 v17:Int):(1<=v12)/\(v12 < 4294967296)/\(0<=v11)->gG Tryz.f196 cx (.t [(.v (.int .u64 (gK a0 a1 a2 (v10,v11,v12,v13,v14,v15,v16,v17)).1)),(.v (.int .u64 (gK a0 a1 a2 (v10,v11,v12,v13,v14,v15,v16,v17)).2))]) [] [] (.c tW.1::tW.2) (uM a0 a1 a2 v10 v11 v12 v13 v14 v15 v16 v17):=by
 intro hi;have hrh:=aV9 (u:=(iW .u64 ((iW .u64 ((iW .u64 (v14*4294967296))+v15)) - (iW .u64 (v17*v10))))) ⟨hi.1,hi.2.1⟩ (aO4 _);have e:=Eq.refl (gK a0 a1 a2 (v10,v11,v12,v13,v14,v15,v16,v17));(conv at e=>rhs;simp only [gK]);rw [e];refine eN [.p (show(v12:Int)≠0 from by first | omega | (rw [aG]<;>omega) | exact jF _)] [2,8,9,10,14,15,16,17,18] [] hcx aDj (aA9 a0 a1 a2 v10 v11 v12 v13 v16 v17 (iW .u64 ((iW .u64 ((iW .u64 ((iW .u64 (v14*4294967296))+v15)) - (iW .u64 (v17*v10)))) - (iW .u64 ((iW .u64 (tD (iW .u64 ((iW .u64 ((iW .u64 (v14*4294967296))+v15)) - (iW .u64 (v17*v10)))) v12))*v12)))) (iW .u64 ((iW .u64 ((iW .u64 (v14*4294967296))+v15)) - (iW .u64 (v17*v10)))) (iW .u64 (tD (iW .u64 ((iW .u64 ((iW .u64 (v14*4294967296))+v15)) - (iW .u64 (v17*v10)))) v12))) (tN (4294967296 - (iW .u64 ((iW .u64 ((iW .u64 ((iW .u64 (v14*4294967296))+v15)) - (iW .u64 (v17*v10)))) - (iW .u64 ((iW .u64 (tD (iW .u64 ((iW .u64 ((iW .u64 (v14*4294967296))+v15)) - (iW .u64 (v17*v10)))) v12))*v12)))))+1) ?_;exact aX3 a0 a1 a2 hy hcx (tN (4294967296 - (iW .u64 ((iW .u64 ((iW .u64 ((iW .u64 (v14*4294967296))+v15)) - (iW .u64 (v17*v10)))) - (iW .u64 ((iW .u64 (tD (iW .u64 ((iW .u64 ((iW .u64 (v14*4294967296))+v15)) - (iW .u64 (v17*v10)))) v12))*v12)))))+1) v10 v11 v12 v13 v16 v17 (iW .u64 ((iW .u64 ((iW .u64 ((iW .u64 (v14*4294967296))+v15)) - (iW .u64 (v17*v10)))) - (iW .u64 ((iW .u64 (tD (iW .u64 ((iW .u64 ((iW .u64 (v14*4294967296))+v15)) - (iW .u64 (v17*v10)))) v12))*v12)))) (iW .u64 ((iW .u64 ((iW .u64 (v14*4294967296))+v15)) - (iW .u64 (v17*v10)))) (iW .u64 (tD (iW .u64 ((iW .u64 ((iW .u64 (v14*4294967296))+v15)) - (iW .u64 (v17*v10)))) v12)) (by refine⟨?_,?_,?_,?_,?_⟩<;>(try simp only [Ls])<;>first | omega | assumption | simp) (by omega)
theorem aX4 (a0 a1 a2:Int)(hy:DvP a0 a1 a2) {cx:Cx} (hcx:cx.base=0):∀(n:Nat) (v1 v2 v3 v4 v5 v6 v7 v8 v9:Int),(1<=v3)/\(v3 < 4294967296)/\(0<=v9)/\(v9 < 4294967296)/\(0<=v2)->tN (4294967296 - v9) < n->gG Tryz.f196 cx (.t [(.v (.int .u64 (aE (iY a0 a1 a2) n (v1,v2,v3,v4,v5,v6,v7,v8,v9)).1)),(.v (.int .u64 (aE (iY a0 a1 a2) n (v1,v2,v3,v4,v5,v6,v7,v8,v9)).2))]) [] [] (.l aDk.1 n::aDk.2) (aBa a0 a1 a2 v1 v2 v3 v4 v5 v6 v7 v8 v9):=by
 intro n
 induction n with|zero=>intro v1 v2 v3 v4 v5 v6 v7 v8 v9 hi hn;exact absurd hn (fW _)|succ n ih=>?_
 intro v1 v2 v3 v4 v5 v6 v7 v8 v9 hi hn;refine aS ?_;have hu9:=xJ (v9+v3);cases h0:(decide ((v8:Int)≥4294967296))
 case true=>
  have q0:=dE h0;let t1:SL:=[.d h0];cases h1:(decide (((iW .u64 (v9+v3)):Int)≥4294967296))
  case true=>have q1:=dE h1;have e:=Eq.refl (iY a0 a1 a2 (v1,v2,v3,v4,v5,v6,v7,v8,v9));(conv at e=>rhs;simp only [iY,h0,h1,aQ]);rw [aJ,e];refine gA (t1++[.d h1,.z 21]) [2,8,9,10,11,13,14,15] [] hcx tW (uM a0 a1 a2 v1 v2 v3 v4 v5 v6 v7 (iW .u64 (v8 - 1))) ?_;exact aDl a0 a1 a2 hy hcx v1 v2 v3 v4 v5 v6 v7 (iW .u64 (v8 - 1)) (by refine⟨?_,?_,?_⟩<;>(try simp only [Ls])<;>first | omega | assumption | simp)
  have q1:=dO h1;have e:=Eq.refl (iY a0 a1 a2 (v1,v2,v3,v4,v5,v6,v7,v8,v9));(conv at e=>rhs;simp only [iY,h0,h1,aQ]);rw [aD e];refine bA n (t1++[.d h1]) [2,8,9,10,11,13,14,15,16] [] hcx aDk (aBa a0 a1 a2 v1 v2 v3 v4 v5 v6 v7 (iW .u64 (v8 - 1)) (iW .u64 (v9+v3))) ?_;exact ih _ _ _ _ _ _ _ _ _ (by refine⟨?_,?_,?_,?_,?_⟩<;>(try simp only [Ls])<;>first | omega | assumption | simp) (by omega)
 have q0:=dO h0;let t1:SL:=[.d h0];cases h1:(decide (((iW .u64 (v8*v4)):Int) > (iW .u64 ((iW .u64 (4294967296*v9))+v6))))
 case true=>
  have q1:=dE h1;let t2:SL:=t1++[.d h1];cases h2:(decide (((iW .u64 (v9+v3)):Int)≥4294967296))
  case true=>have q2:=dE h2;have e:=Eq.refl (iY a0 a1 a2 (v1,v2,v3,v4,v5,v6,v7,v8,v9));(conv at e=>rhs;simp only [iY,h0,h1,h2,aQ]);rw [aJ,e];refine gA (t2++[.d h2,.z 21]) [2,8,9,10,11,13,14,15] [] hcx tW (uM a0 a1 a2 v1 v2 v3 v4 v5 v6 v7 (iW .u64 (v8 - 1))) ?_;exact aDl a0 a1 a2 hy hcx v1 v2 v3 v4 v5 v6 v7 (iW .u64 (v8 - 1)) (by refine⟨?_,?_,?_⟩<;>(try simp only [Ls])<;>first | omega | assumption | simp)
  have q2:=dO h2;have e:=Eq.refl (iY a0 a1 a2 (v1,v2,v3,v4,v5,v6,v7,v8,v9));(conv at e=>rhs;simp only [iY,h0,h1,h2,aQ]);rw [aD e];refine bA n (t2++[.d h2]) [2,8,9,10,11,13,14,15,16] [] hcx aDk (aBa a0 a1 a2 v1 v2 v3 v4 v5 v6 v7 (iW .u64 (v8 - 1)) (iW .u64 (v9+v3))) ?_;exact ih _ _ _ _ _ _ _ _ _ (by refine⟨?_,?_,?_,?_,?_⟩<;>(try simp only [Ls])<;>first | omega | assumption | simp) (by omega)
 have q1:=dO h1;have e:=Eq.refl (iY a0 a1 a2 (v1,v2,v3,v4,v5,v6,v7,v8,v9));(conv at e=>rhs;simp only [iY,h0,h1,aQ]);rw [aJ,e];refine gA (t1++[.d h1,.z 21]) [2,8,9,10,11,13,14,15] [] hcx tW (uM a0 a1 a2 v1 v2 v3 v4 v5 v6 v7 v8) ?_;exact aDl a0 a1 a2 hy hcx v1 v2 v3 v4 v5 v6 v7 v8 (by refine⟨?_,?_,?_⟩<;>(try simp only [Ls])<;>first | omega | assumption | simp)
def jD (a0 a1 a2:Int):Zs := (bif ((a2:Int) == 0)then dF else(bif (decide ((a2:Int)<=a0))then dF else(bif ((a0:Int) == 0)then((iW .u64 (tD a1 a2)),(mD a1 a2))else(aE (iY a0 a1 a2) (tN (4294967296 - (iW .u64 ((iW .u64 ((bO 64 (iW .u64 (a0*2 ^ (min (tN (iW .u64 (cK a2))) 64))) ||| bO 64 (fD a1 (2 ^ (min (tN (iW .u64 (64 - (iW .u64 (cK a2))))) 64)))).toNat:Int)) - (iW .u64 ((iW .u64 (tD (iW .u64 ((bO 64 (iW .u64 (a0*2 ^ (min (tN (iW .u64 (cK a2))) 64))) ||| bO 64 (fD a1 (2 ^ (min (tN (iW .u64 (64 - (iW .u64 (cK a2))))) 64)))).toNat:Int)) (fD (iW .u64 (a2*2 ^ (min (tN (iW .u64 (cK a2))) 64))) (2 ^ (min (tN 32) 64)))))*(fD (iW .u64 (a2*2 ^ (min (tN (iW .u64 (cK a2))) 64))) (2 ^ (min (tN 32) 64))))))))+1) ((iW .u64 (a2*2 ^ (min (tN (iW .u64 (cK a2))) 64))),(iW .u64 (cK a2)),(fD (iW .u64 (a2*2 ^ (min (tN (iW .u64 (cK a2))) 64))) (2 ^ (min (tN 32) 64))),(iW .u64 ((bO 64 (iW .u64 (a2*2 ^ (min (tN (iW .u64 (cK a2))) 64))) &&& bO 64 4294967295).toNat:Int)),(iW .u64 ((bO 64 (iW .u64 (a0*2 ^ (min (tN (iW .u64 (cK a2))) 64))) ||| bO 64 (fD a1 (2 ^ (min (tN (iW .u64 (64 - (iW .u64 (cK a2))))) 64)))).toNat:Int)),(fD (iW .u64 (a1*2 ^ (min (tN (iW .u64 (cK a2))) 64))) (2 ^ (min (tN 32) 64))),(iW .u64 ((bO 64 (iW .u64 (a1*2 ^ (min (tN (iW .u64 (cK a2))) 64))) &&& bO 64 4294967295).toNat:Int)),(iW .u64 (tD (iW .u64 ((bO 64 (iW .u64 (a0*2 ^ (min (tN (iW .u64 (cK a2))) 64))) ||| bO 64 (fD a1 (2 ^ (min (tN (iW .u64 (64 - (iW .u64 (cK a2))))) 64)))).toNat:Int)) (fD (iW .u64 (a2*2 ^ (min (tN (iW .u64 (cK a2))) 64))) (2 ^ (min (tN 32) 64))))),(iW .u64 ((iW .u64 ((bO 64 (iW .u64 (a0*2 ^ (min (tN (iW .u64 (cK a2))) 64))) ||| bO 64 (fD a1 (2 ^ (min (tN (iW .u64 (64 - (iW .u64 (cK a2))))) 64)))).toNat:Int)) - (iW .u64 ((iW .u64 (tD (iW .u64 ((bO 64 (iW .u64 (a0*2 ^ (min (tN (iW .u64 (cK a2))) 64))) ||| bO 64 (fD a1 (2 ^ (min (tN (iW .u64 (64 - (iW .u64 (cK a2))))) 64)))).toNat:Int)) (fD (iW .u64 (a2*2 ^ (min (tN (iW .u64 (cK a2))) 64))) (2 ^ (min (tN 32) 64)))))*(fD (iW .u64 (a2*2 ^ (min (tN (iW .u64 (cK a2))) 64))) (2 ^ (min (tN 32) 64))))))))))))
theorem bC6 (a0 a1 a2:Int)(hy:DvP a0 a1 a2):Con Tryz.prog 196 [(.v (.int .u64 a0)),(.v (.int .u64 a1)),(.v (.int .u64 a2))] [] (.t [(.v (.int .u64 (jD a0 a1 a2).1)),(.v (.int .u64 (jD a0 a1 a2).2))]) []:=by
 refine cS Tryz.func196 fun cx hcx=>?_
 have hyy:=hy.hy;have hdv:=bC5 hy.hy;have hun:=aO4 (cK a2);have hrh:=aV9 (u:=(iW .u64 ((bO 64 (iW .u64 (a0*2 ^ (min (tN (iW .u64 (cK a2))) 64))) ||| bO 64 (fD a1 (2 ^ (min (tN (iW .u64 (64 - (iW .u64 (cK a2))))) 64)))).toNat:Int))) hdv (aO4 _);cases h0:((a2:Int) == 0)
 case true=>have q0:=eq_of_beq h0;have h9:=hy.hy;have h8:=hy.hh;first | exact absurd (eq_of_beq h0) (by omega) | exact absurd (dE h1) (by omega)
 have q0:=ne_of_beq_false h0;let t1:SL:=[.d h0];cases h1:(decide ((a2:Int)<=a0))
 case true=>have q1:=dE h1;have h9:=hy.hy;have h8:=hy.hh;first | exact absurd (eq_of_beq h0) (by omega) | exact absurd (dE h1) (by omega)
 have q1:=dO h1;let t2:SL:=t1++[.d h1];cases h2:((a0:Int) == 0)
 case true=>have q2:=eq_of_beq h2;have e:=Eq.refl (jD a0 a1 a2);(conv at e=>rhs;simp only [jD,h0,h1,h2,aQ]);rw [e];exact rT (t2++[.d h2,.p (show(a2:Int)≠0 from by first | omega | (rw [aG]<;>omega) | exact jF _),.p (show(a2:Int)≠0 from by first | omega | (rw [aG]<;>omega) | exact jF _)]) hcx
 have q2:=ne_of_beq_false h2;have e:=Eq.refl (jD a0 a1 a2);(conv at e=>rhs;simp only [jD,h0,h1,h2,aQ]);rw [e];refine eN (t2++[.d h2,.c [] (bC4 a2  (by have:=hy.hy;omega)),.p (show 0<=((iW .u64 (cK a2)):Int) from by first | omega | (rw [aG]<;>omega) | exact jF _),.p (show 0<=(32:Int) from by decide),.p (show 0<=((iW .u64 (cK a2)):Int) from by first | omega | (rw [aG]<;>omega) | exact jF _),.p (show 0<=((iW .u64 (64 - (iW .u64 (cK a2)))):Int) from by first | omega | (rw [aG]<;>omega) | exact jF _),.p (show 0<=((iW .u64 (cK a2)):Int) from by first | omega | (rw [aG]<;>omega) | exact jF _),.p (show 0<=(32:Int) from by decide),.p (show((fD (iW .u64 (a2*2 ^ (min (tN (iW .u64 (cK a2))) 64))) (2 ^ (min (tN 32) 64))):Int)≠0 from by first | omega | (rw [aG]<;>omega) | exact jF _)]) [2,8,9,10,11,13,14,15,16] [] hcx aDk (aBa a0 a1 a2 (iW .u64 (a2*2 ^ (min (tN (iW .u64 (cK a2))) 64))) (iW .u64 (cK a2)) (fD (iW .u64 (a2*2 ^ (min (tN (iW .u64 (cK a2))) 64))) (2 ^ (min (tN 32) 64))) (iW .u64 ((bO 64 (iW .u64 (a2*2 ^ (min (tN (iW .u64 (cK a2))) 64))) &&& bO 64 4294967295).toNat:Int)) (iW .u64 ((bO 64 (iW .u64 (a0*2 ^ (min (tN (iW .u64 (cK a2))) 64))) ||| bO 64 (fD a1 (2 ^ (min (tN (iW .u64 (64 - (iW .u64 (cK a2))))) 64)))).toNat:Int)) (fD (iW .u64 (a1*2 ^ (min (tN (iW .u64 (cK a2))) 64))) (2 ^ (min (tN 32) 64))) (iW .u64 ((bO 64 (iW .u64 (a1*2 ^ (min (tN (iW .u64 (cK a2))) 64))) &&& bO 64 4294967295).toNat:Int)) (iW .u64 (tD (iW .u64 ((bO 64 (iW .u64 (a0*2 ^ (min (tN (iW .u64 (cK a2))) 64))) ||| bO 64 (fD a1 (2 ^ (min (tN (iW .u64 (64 - (iW .u64 (cK a2))))) 64)))).toNat:Int)) (fD (iW .u64 (a2*2 ^ (min (tN (iW .u64 (cK a2))) 64))) (2 ^ (min (tN 32) 64))))) (iW .u64 ((iW .u64 ((bO 64 (iW .u64 (a0*2 ^ (min (tN (iW .u64 (cK a2))) 64))) ||| bO 64 (fD a1 (2 ^ (min (tN (iW .u64 (64 - (iW .u64 (cK a2))))) 64)))).toNat:Int)) - (iW .u64 ((iW .u64 (tD (iW .u64 ((bO 64 (iW .u64 (a0*2 ^ (min (tN (iW .u64 (cK a2))) 64))) ||| bO 64 (fD a1 (2 ^ (min (tN (iW .u64 (64 - (iW .u64 (cK a2))))) 64)))).toNat:Int)) (fD (iW .u64 (a2*2 ^ (min (tN (iW .u64 (cK a2))) 64))) (2 ^ (min (tN 32) 64)))))*(fD (iW .u64 (a2*2 ^ (min (tN (iW .u64 (cK a2))) 64))) (2 ^ (min (tN 32) 64)))))))) (tN (4294967296 - (iW .u64 ((iW .u64 ((bO 64 (iW .u64 (a0*2 ^ (min (tN (iW .u64 (cK a2))) 64))) ||| bO 64 (fD a1 (2 ^ (min (tN (iW .u64 (64 - (iW .u64 (cK a2))))) 64)))).toNat:Int)) - (iW .u64 ((iW .u64 (tD (iW .u64 ((bO 64 (iW .u64 (a0*2 ^ (min (tN (iW .u64 (cK a2))) 64))) ||| bO 64 (fD a1 (2 ^ (min (tN (iW .u64 (64 - (iW .u64 (cK a2))))) 64)))).toNat:Int)) (fD (iW .u64 (a2*2 ^ (min (tN (iW .u64 (cK a2))) 64))) (2 ^ (min (tN 32) 64)))))*(fD (iW .u64 (a2*2 ^ (min (tN (iW .u64 (cK a2))) 64))) (2 ^ (min (tN 32) 64))))))))+1) ?_;exact aX4 a0 a1 a2 hy hcx (tN (4294967296 - (iW .u64 ((iW .u64 ((bO 64 (iW .u64 (a0*2 ^ (min (tN (iW .u64 (cK a2))) 64))) ||| bO 64 (fD a1 (2 ^ (min (tN (iW .u64 (64 - (iW .u64 (cK a2))))) 64)))).toNat:Int)) - (iW .u64 ((iW .u64 (tD (iW .u64 ((bO 64 (iW .u64 (a0*2 ^ (min (tN (iW .u64 (cK a2))) 64))) ||| bO 64 (fD a1 (2 ^ (min (tN (iW .u64 (64 - (iW .u64 (cK a2))))) 64)))).toNat:Int)) (fD (iW .u64 (a2*2 ^ (min (tN (iW .u64 (cK a2))) 64))) (2 ^ (min (tN 32) 64)))))*(fD (iW .u64 (a2*2 ^ (min (tN (iW .u64 (cK a2))) 64))) (2 ^ (min (tN 32) 64))))))))+1) (iW .u64 (a2*2 ^ (min (tN (iW .u64 (cK a2))) 64))) (iW .u64 (cK a2)) (fD (iW .u64 (a2*2 ^ (min (tN (iW .u64 (cK a2))) 64))) (2 ^ (min (tN 32) 64))) (iW .u64 ((bO 64 (iW .u64 (a2*2 ^ (min (tN (iW .u64 (cK a2))) 64))) &&& bO 64 4294967295).toNat:Int)) (iW .u64 ((bO 64 (iW .u64 (a0*2 ^ (min (tN (iW .u64 (cK a2))) 64))) ||| bO 64 (fD a1 (2 ^ (min (tN (iW .u64 (64 - (iW .u64 (cK a2))))) 64)))).toNat:Int)) (fD (iW .u64 (a1*2 ^ (min (tN (iW .u64 (cK a2))) 64))) (2 ^ (min (tN 32) 64))) (iW .u64 ((bO 64 (iW .u64 (a1*2 ^ (min (tN (iW .u64 (cK a2))) 64))) &&& bO 64 4294967295).toNat:Int)) (iW .u64 (tD (iW .u64 ((bO 64 (iW .u64 (a0*2 ^ (min (tN (iW .u64 (cK a2))) 64))) ||| bO 64 (fD a1 (2 ^ (min (tN (iW .u64 (64 - (iW .u64 (cK a2))))) 64)))).toNat:Int)) (fD (iW .u64 (a2*2 ^ (min (tN (iW .u64 (cK a2))) 64))) (2 ^ (min (tN 32) 64))))) (iW .u64 ((iW .u64 ((bO 64 (iW .u64 (a0*2 ^ (min (tN (iW .u64 (cK a2))) 64))) ||| bO 64 (fD a1 (2 ^ (min (tN (iW .u64 (64 - (iW .u64 (cK a2))))) 64)))).toNat:Int)) - (iW .u64 ((iW .u64 (tD (iW .u64 ((bO 64 (iW .u64 (a0*2 ^ (min (tN (iW .u64 (cK a2))) 64))) ||| bO 64 (fD a1 (2 ^ (min (tN (iW .u64 (64 - (iW .u64 (cK a2))))) 64)))).toNat:Int)) (fD (iW .u64 (a2*2 ^ (min (tN (iW .u64 (cK a2))) 64))) (2 ^ (min (tN 32) 64)))))*(fD (iW .u64 (a2*2 ^ (min (tN (iW .u64 (cK a2))) 64))) (2 ^ (min (tN 32) 64))))))) (by refine⟨?_,?_,?_,?_,?_⟩<;>(try simp only [Ls])<;>first | omega | assumption | simp) (by omega)
theorem zG (q y1 y0:Int):q*(y1*4294967296+y0)=q*y1*4294967296+q*y0:=by grind
structure KnI (u2 u1 y1 y0 q r:Int):Prop where
 e:q*y1+r=u2
 r0:0<=r
 lt:u2*4294967296+u1 < (q+1)*(y1*4294967296+y0)
 q1:q<=4294967297
 q0:0<=q
structure KnH (u2 u1 y1 y0:Int):Prop where
 u2:0<=u2/\u2 < y1*4294967296+y0
 u1:0<=u1/\u1 < 4294967296
 y1:2147483648<=y1/\y1 < 4294967296
 y0:0<=y0/\y0 < 4294967296
theorem aNl {u2 u1 y1 y0:Int} (h:KnH u2 u1 y1 y0):KnI u2 u1 y1 y0 (u2 / y1) (u2 - u2 / y1*y1)/\u2 - u2 / y1*y1 < y1:=by
 obtain⟨a,b,c,d⟩:=h;have h1:=Int.mul_ediv_add_emod u2 y1;have h2:=Int.emod_nonneg u2 (show y1≠0 by omega);have h3:=Int.emod_lt_of_pos u2 (show 0 < y1 by omega);have hc:y1*(u2 / y1)=u2 / y1*y1:=Int.mul_comm _ _;have hq0:0<=u2 / y1:=Int.ediv_nonneg a.1 (by omega);have hq1:u2 / y1<=4294967297:=by
  have:u2 / y1 < 4294967298:=Int.ediv_lt_of_lt_mul (by omega) (by omega);omega
 have e1:=zG (u2 / y1+1) y1 y0;have e2:(u2 / y1+1)*y1=u2 / y1*y1+y1:=by grind
 have e3:0<=(u2 / y1+1)*y0:=Int.mul_nonneg (by omega) d.1;exact⟨⟨by omega,by omega,by rw [e1,e2];omega,hq1,hq0⟩,by omega⟩
theorem aX5 {u2 u1 y1 y0 q r:Int} (h:KnH u2 u1 y1 y0)(hI:KnI u2 u1 y1 y0 q r)(ht:4294967296<=q\/r*4294967296+u1 < q*y0):u2*4294967296+u1 < q*(y1*4294967296+y0):=by
 obtain⟨a,b,c,d⟩:=h;rcases ht with ht | ht
 ·have:4294967296*(y1*4294967296+y0)<=q*(y1*4294967296+y0):=Int.mul_le_mul_of_nonneg_right ht (by omega);omega
 ·have e:=hI.e;rw [zG];omega
theorem aNm {u2 u1 y1 y0 q r:Int} (h:KnH u2 u1 y1 y0)(hI:KnI u2 u1 y1 y0 q r)(ht:4294967296<=q\/r*4294967296+u1 < q*y0):KnI u2 u1 y1 y0 (q - 1) (r+y1)/\1<=q:=by
 have hb:=aX5 h hI ht;obtain⟨a,b,c,d⟩:=h;have e:=hI.e;have hq:1<=q:=by
  rcases Int.lt_or_le 0 q with hq | hq
  ·omega
  ·have:q=0:=Int.le_antisymm hq hI.q0;subst this;simp at hb;omega
 refine⟨⟨?_,by have:=hI.r0;omega,?_,by have:=hI.q1;omega,by omega⟩,hq⟩
 ·have:(q - 1)*y1=q*y1 - y1:=by grind
  omega
 ·rw [show q - 1+1=q by omega];exact hb
theorem aGu {u2 u1 y1 y0 q r:Int} (h:KnH u2 u1 y1 y0)(hI:KnI u2 u1 y1 y0 q r)(hd:q*y0<=r*4294967296+u1):q=(u2*4294967296+u1) / (y1*4294967296+y0):=by
 obtain⟨a,b,c,d⟩:=h;have e:=hI.e;have h1:=hI.lt;have h2:q*(y1*4294967296+y0)<=u2*4294967296+u1:=by rw [zG];omega
 have hp:0 < y1*4294967296+y0:=by omega
 refine Int.le_antisymm ((Int.le_ediv_iff_mul_le hp).2 h2) ?_;have:(u2*4294967296+u1) / (y1*4294967296+y0) < q+1:=Int.ediv_lt_of_lt_mul hp h1;omega
theorem aR7 {u2 u1 y1 y0 q r:Int} (h:KnH u2 u1 y1 y0)(hI:KnI u2 u1 y1 y0 q r)(hq:q<=4294967296)(hr:4294967296<=r):q=(u2*4294967296+u1) / (y1*4294967296+y0):=by
 refine aGu h hI ?_;obtain⟨a,b,c,d⟩:=h;have h1:q*y0<=4294967296*y0:=Int.mul_le_mul_of_nonneg_right hq d.1;omega
theorem aX6 {u2 u1 u0 Y:Int} (hY:0 < Y):(u2*4294967296+u1)*4294967296+u0=((u2*4294967296+u1) / Y*4294967296+((u2*4294967296+u1 - (u2*4294967296+u1) / Y*Y)*4294967296+u0) / Y)*Y+(((u2*4294967296+u1 - (u2*4294967296+u1) / Y*Y)*4294967296+u0) - ((u2*4294967296+u1 - (u2*4294967296+u1) / Y*Y)*4294967296+u0) / Y*Y):=by
 grind
theorem aX7 {N Y q r:Int} (hY:0 < Y)(h:N=q*Y+r)(h0:0<=r)(h1:r < Y):q=N / Y/\r=N % Y:=by
 subst h;rw [Int.add_comm,Int.add_mul_ediv_right _ _ (by omega),Int.ediv_eq_zero_of_lt h0 h1,Int.add_mul_emod_self_right,Int.emod_eq_of_lt h0 h1];exact⟨by omega,rfl⟩
theorem jQ {T R:Type} [Inhabited R] {S:T->T⊕R} (μ:T->Nat)(Pr:T->Prop)(Qr:R->Prop)(h:∀x,Pr x->(∃a,S x=.inl a/\Pr a/\μ a < μ x)\/(∃r,S x=.inr r/\Qr r)) :
 ∀(n:Nat) (x:T),Pr x->μ x < n->Qr (aE S n x)
 | 0,_,_,hn=>absurd hn (fW _)
 | n+1,x,hx,hn=>by
  rcases h x hx with⟨a,e1,e2,e3⟩ | ⟨r,e1,e2⟩
  ·rw [aD e1];exact jQ μ Pr Qr h n a e2 (by omega)
  ·rw [aM e1];exact e2
theorem bAs {q r y1 y0 u u0:Int} (hH:KnH u u0 y1 y0)(hI:KnI u u0 y1 y0 q r)(hr:r < 4294967296)(hq:q < 4294967296):iW .u64 (q*y0)=q*y0/\iW .u64 ((iW .u64 (4294967296*r))+u0)=r*4294967296+u0:=by
 obtain⟨a,b,c,d⟩:=hH;have h0:=hI.q0;have h1:=hI.r0;have h2:0<=q*y0:=Int.mul_nonneg h0 d.1;have h3:q*y0<=4294967295*y0:=Int.mul_le_mul_of_nonneg_right (by omega) d.1;rw [pH (n:=q*y0) (by omega),pH (n:=4294967296*r) (by omega),pH (by omega)];exact⟨rfl,by omega⟩
theorem aWa {q r y1 y0 u u0:Int} (hH:KnH u u0 y1 y0)(hI:KnI u u0 y1 y0 q r)(hr:r < 4294967296)(h1:1<=q):iW .u64 (r+y1)=r+y1/\iW .u64 (q - 1)=q - 1:=by
 obtain⟨a,b,c,d⟩:=hH;have h0:=hI.q1;have h2:=hI.r0;rw [pH (n:=r+y1) (by omega),pH (n:=q - 1) (by omega)];exact⟨rfl,rfl⟩
def dvR (y s u0 q1 u q0:Int):Zs:=(iW .u64 ((iW .u64 (q1*4294967296))+q0),fD (iW .u64 ((iW .u64 ((iW .u64 (u*4294967296))+u0)) - (iW .u64 (q0*y)))) (2 ^ (min (tN s) 64)))
theorem bC7 {a0 a1 a2 y s y1 y0 u0 q1 r u q0:Int} (n:Nat)(hH:KnH u u0 y1 y0)(hI:KnI u u0 y1 y0 q0 r)(hr:r < 4294967296)(hn:tN (4294967296 - r) < n) :
 aE (iX a0 a1 a2) n (y,s,y1,y0,u0,q1,r,u,q0)=dvR y s u0 q1 u ((u*4294967296+u0) / (y1*4294967296+y0)):=by
 refine jQ (S:=iX a0 a1 a2) (fun v:Int×Int×Int×Int×Int×Int×Zt=>tN (4294967296 - v.2.2.2.2.2.2.1)) (fun v:Int×Int×Int×Int×Int×Int×Zt=>∃q r,v=(y,s,y1,y0,u0,q1,r,u,q)/\KnI u u0 y1 y0 q r/\r < 4294967296) (fun z=>z=dvR y s u0 q1 u ((u*4294967296+u0) / (y1*4294967296+y0))) (fun v hv=>?_) n _ ⟨q0,r,rfl,hI,hr⟩ hn;obtain⟨q,r,rfl,hI,hr⟩:=hv;have hc:=hH.y1;have go:(4294967296<=q\/r*4294967296+u0 < q*y0)->(∃z,(bif (decide ((iW .u64 (r+y1):Int)≥4294967296)) then(Sum.inr (dvR y s u0 q1 u (iW .u64 (q - 1))):(Int×Int×Int×Int×Int×Int×Zt)⊕Zs) else .inl (y,s,y1,y0,u0,q1,iW .u64 (r+y1),u,iW .u64 (q - 1)))=.inl z/\(∃q r,z=(y,s,y1,y0,u0,q1,r,u,q)/\KnI u u0 y1 y0 q r/\r < 4294967296)/\tN (4294967296 - z.2.2.2.2.2.2.1) < tN (4294967296 - r))\/(∃z,(bif (decide ((iW .u64 (r+y1):Int)≥4294967296)) then(Sum.inr (dvR y s u0 q1 u (iW .u64 (q - 1))):(Int×Int×Int×Int×Int×Int×Zt)⊕Zs) else .inl (y,s,y1,y0,u0,q1,iW .u64 (r+y1),u,iW .u64 (q - 1)))=.inr z/\z=dvR y s u0 q1 u ((u*4294967296+u0) / (y1*4294967296+y0))):=fun ht=>by
  obtain⟨hI2,hq1⟩:=aNm hH hI ht;obtain⟨e1,e2⟩:=aWa hH hI hr hq1;rw [e1,e2];cases h2:(decide ((r+y1:Int)≥4294967296))
  case true=>have h3:=dE h2;have hb:=hI.q1;rw [cond_true];exact .inr ⟨_,rfl,by rw [←aR7 hH hI2 (by omega) h3]⟩
  have h3:=dO h2;rw [cond_false];exact .inl ⟨_,rfl,⟨q - 1,r+y1,rfl,hI2,by omega⟩,by show tN (4294967296 - (r+y1)) < tN (4294967296 - r);omega⟩
 cases h0:(decide ((q:Int)≥4294967296))
 case true=>have:=go (.inl (dE h0));simp only [iX,h0,cond_true];exact this
 have hq:=dO h0;obtain⟨e1,e2⟩:=bAs hH hI hr (by omega);cases h1:(decide ((iW .u64 (q*y0):Int) > (iW .u64 ((iW .u64 (4294967296*r))+u0))))
 case true=>have ht:=dE h1;rw [e1,e2] at ht;have:=go (.inr ht);simp only [iX,h0,h1,aQ];exact this
 have ht:=dO h1;rw [e1,e2] at ht;refine .inr ⟨dvR y s u0 q1 u q,by simp only [iX,h0,h1,cond_false];rfl,?_⟩;rw [←aGu hH hI (by omega)]
theorem bC8 {a0 a1 a2 y s y1 y0 u2 u1 u0 r q0:Int} (n:Nat)(hH:KnH u2 u1 y1 y0)(hI:KnI u2 u1 y1 y0 q0 r)(hr:r < 4294967296)(hn:tN (4294967296 - r) < n) :
 aE (iY a0 a1 a2) n (y,s,y1,y0,u2,u1,u0,q0,r)=gK a0 a1 a2 (y,s,y1,y0,u2,u1,u0,(u2*4294967296+u1) / (y1*4294967296+y0)):=by
 refine jQ (S:=iY a0 a1 a2) (fun v:Int×Int×Int×Int×Int×Int×Zt=>tN (4294967296 - v.2.2.2.2.2.2.2.2)) (fun v:Int×Int×Int×Int×Int×Int×Zt=>∃q r,v=(y,s,y1,y0,u2,u1,u0,q,r)/\KnI u2 u1 y1 y0 q r/\r < 4294967296) (fun z=>z=gK a0 a1 a2 (y,s,y1,y0,u2,u1,u0,(u2*4294967296+u1) / (y1*4294967296+y0))) (fun v hv=>?_) n _ ⟨q0,r,rfl,hI,hr⟩ hn;obtain⟨q,r,rfl,hI,hr⟩:=hv;have hc:=hH.y1;have go:(4294967296<=q\/r*4294967296+u1 < q*y0)->(∃z,(bif (decide ((iW .u64 (r+y1):Int)≥4294967296)) then(Sum.inr (gK a0 a1 a2 (y,s,y1,y0,u2,u1,u0,iW .u64 (q - 1))):(Int×Int×Int×Int×Int×Int×Zt)⊕Zs) else .inl (y,s,y1,y0,u2,u1,u0,iW .u64 (q - 1),iW .u64 (r+y1)))=.inl z/\(∃q r,z=(y,s,y1,y0,u2,u1,u0,q,r)/\KnI u2 u1 y1 y0 q r/\r < 4294967296)/\tN (4294967296 - z.2.2.2.2.2.2.2.2) < tN (4294967296 - r))\/(∃z,(bif (decide ((iW .u64 (r+y1):Int)≥4294967296)) then(Sum.inr (gK a0 a1 a2 (y,s,y1,y0,u2,u1,u0,iW .u64 (q - 1))):(Int×Int×Int×Int×Int×Int×Zt)⊕Zs) else .inl (y,s,y1,y0,u2,u1,u0,iW .u64 (q - 1),iW .u64 (r+y1)))=.inr z/\z=gK a0 a1 a2 (y,s,y1,y0,u2,u1,u0,(u2*4294967296+u1) / (y1*4294967296+y0))):=fun ht=>by
  obtain⟨hI2,hq1⟩:=aNm hH hI ht;obtain⟨e1,e2⟩:=aWa hH hI hr hq1;rw [e1,e2];cases h2:(decide ((r+y1:Int)≥4294967296))
  case true=>have h3:=dE h2;have hb:=hI.q1;rw [cond_true];exact .inr ⟨_,rfl,by rw [←aR7 hH hI2 (by omega) h3]⟩
  have h3:=dO h2;rw [cond_false];exact .inl ⟨_,rfl,⟨q - 1,r+y1,rfl,hI2,by omega⟩,by show tN (4294967296 - (r+y1)) < tN (4294967296 - r);omega⟩
 cases h0:(decide ((q:Int)≥4294967296))
 case true=>have:=go (.inl (dE h0));simp only [iY,h0,cond_true];exact this
 have hq:=dO h0;obtain⟨e1,e2⟩:=bAs hH hI hr (by omega);cases h1:(decide ((iW .u64 (q*y0):Int) > (iW .u64 ((iW .u64 (4294967296*r))+u1))))
 case true=>have ht:=dE h1;rw [e1,e2] at ht;have:=go (.inr ht);simp only [iY,h0,h1,aQ];exact this
 have ht:=dO h1;rw [e1,e2] at ht;refine .inr ⟨gK a0 a1 a2 (y,s,y1,y0,u2,u1,u0,q),by simp only [iY,h0,h1,cond_false],?_⟩;rw [←aGu hH hI (by omega)]
theorem bC9 {a0 a1 a2 s y1 y0 u2 u1 u0:Int} (hH:KnH u2 u1 y1 y0)(h0:0<=u0/\u0 < 4294967296) :
 gK a0 a1 a2 (y1*4294967296+y0,s,y1,y0,u2,u1,u0,(u2*4294967296+u1) / (y1*4294967296+y0)) =
  (((u2*4294967296+u1)*4294967296+u0) / (y1*4294967296+y0),fD (((u2*4294967296+u1)*4294967296+u0) % (y1*4294967296+y0)) (2 ^ (min (tN s) 64))):=by
 obtain⟨a,b,c,d⟩:=hH;have hY:0 < y1*4294967296+y0:=by omega
 have n1:=Int.mul_ediv_add_emod (u2*4294967296+u1) (y1*4294967296+y0);have n2:=Int.emod_nonneg (u2*4294967296+u1) (show y1*4294967296+y0≠0 by omega);have n3:=Int.emod_lt_of_pos (u2*4294967296+u1) hY;have nq:(u2*4294967296+u1) / (y1*4294967296+y0) < 4294967296:=Int.ediv_lt_of_lt_mul hY (by omega);have nq0:0<=(u2*4294967296+u1) / (y1*4294967296+y0):=Int.ediv_nonneg (by omega) (by omega);have hmc:(u2*4294967296+u1) / (y1*4294967296+y0)*(y1*4294967296+y0)=(y1*4294967296+y0)*((u2*4294967296+u1) / (y1*4294967296+y0)):=Int.mul_comm _ _;have hu:(iW .u64 ((iW .u64 ((iW .u64 (u2*4294967296))+u1)) - (iW .u64 ((u2*4294967296+u1) / (y1*4294967296+y0)*(y1*4294967296+y0)))))=(u2*4294967296+u1) % (y1*4294967296+y0):=by
  simp only [xJ];rw [hmc];generalize (y1*4294967296+y0)*((u2*4294967296+u1) / (y1*4294967296+y0))=p at *;generalize (u2*4294967296+u1) % (y1*4294967296+y0)=m at *;omega
 unfold gK;simp only [hu];have hall:=aX6 (u2:=u2) (u1:=u1) (u0:=u0) hY;have hmod:u2*4294967296+u1 - (u2*4294967296+u1) / (y1*4294967296+y0)*(y1*4294967296+y0)=(u2*4294967296+u1) % (y1*4294967296+y0):=by omega
 rw [hmod] at hall;generalize hQ:(u2*4294967296+u1) / (y1*4294967296+y0)=Q at *;generalize hm:(u2*4294967296+u1) % (y1*4294967296+y0)=m at *;have hH2:KnH m u0 y1 y0:=⟨⟨n2,n3⟩,h0,c,d⟩;obtain⟨e1,e2,e3,e4⟩:=aR6 (u:=m) (y:=y1) (by omega) (by omega);obtain⟨i1,i2⟩:=aNl hH2;rw [e2,e1];rw [bC7 _ hH2 i1 (by omega) (by omega)];have m1:=Int.mul_ediv_add_emod (m*4294967296+u0) (y1*4294967296+y0);have m2:=Int.emod_nonneg (m*4294967296+u0) (show y1*4294967296+y0≠0 by omega);have m3:=Int.emod_lt_of_pos (m*4294967296+u0) hY;have mq:(m*4294967296+u0) / (y1*4294967296+y0) < 4294967296:=Int.ediv_lt_of_lt_mul hY (by omega);have mq0:0<=(m*4294967296+u0) / (y1*4294967296+y0):=Int.ediv_nonneg (by omega) (by omega);have mmc:(m*4294967296+u0) / (y1*4294967296+y0)*(y1*4294967296+y0)=(y1*4294967296+y0)*((m*4294967296+u0) / (y1*4294967296+y0)):=Int.mul_comm _ _;obtain⟨r1,r2⟩:=aX7 hY hall (by omega) (by omega);rw [←r1,←r2];unfold dvR;rw [eZ];constructor
 ·rw [pH (n:=Q*4294967296) (by omega),pH (by omega)]
 ·congr 1;simp only [xJ];rw [mmc];generalize (y1*4294967296+y0)*((m*4294967296+u0) / (y1*4294967296+y0))=p at *;omega
theorem aX8 {a b:Int} {k:Nat} (ha:0<=a)(hb:0<=b/\b < 2 ^ k)(h:a*2 ^ k+b < 18446744073709551616):((bO 64 (a*2 ^ k) ||| bO 64 b).toNat:Int)=a*2 ^ k+b:=by
 obtain⟨x,rfl⟩:∃n:Nat,a=(n:Int):=⟨a.toNat,by omega⟩;obtain⟨y,rfl⟩:∃n:Nat,b=(n:Int):=⟨b.toNat,by omega⟩;have e:(x:Int)*2 ^ k=((2 ^ k*x:Nat):Int):=by push_cast;rw [Int.mul_comm]
 have hy:y < 2 ^ k:=by
  have h2:=hb.2;have:((2:Int) ^ k)=((2 ^ k:Nat):Int):=by push_cast;rfl
  rw [this] at h2;omega
 rw [e] at h ⊢;rw [BitVec.toNat_or,BitVec.toNat_ofInt,BitVec.toNat_ofInt];have h1:((2 ^ k*x:Nat):Int) % ((2 ^ 64:Nat):Int)=((2 ^ k*x:Nat):Int):=Int.emod_eq_of_lt (by omega) (by omega);have h2:((y:Nat):Int) % ((2 ^ 64:Nat):Int)=((y:Nat):Int):=Int.emod_eq_of_lt (by omega) (by omega);rw [h1,h2,iH,iH,←Nat.two_pow_add_eq_or_of_lt hy];push_cast;rfl
theorem aR8 {hi lo y:Int} (h:DvP hi lo y):jD hi lo y=((hi*18446744073709551616+lo) / y,(hi*18446744073709551616+lo) % y):=by
 obtain⟨hy,hh,hl⟩:=h;obtain⟨k,k1,k2,k3,k4,k5⟩:=bAq hy;have es:=bAr k1 k3;unfold jD;rw [show((y:Int) == 0)=false from beq_eq_false_iff_ne.2 (by omega),cond_false,cV (by omega:¬(y:Int)<=hi),cond_false];cases h0:((hi:Int) == 0)
 case true=>have e0:=eq_of_beq h0;subst e0;rw [cond_true,Int.tdiv_eq_ediv_of_nonneg hl.1,Int.tmod_eq_emod_of_nonneg hl.1];have h1:0<=lo / y:=Int.ediv_nonneg hl.1 (by omega);have h2:lo / y<=lo:=Int.ediv_le_self _ hl.1;rw [pH (by omega)];simp
 rw [cond_false,es];have hpk:(0:Int) < 2 ^ k:=Int.pow_pos (by omega);have hpq:(0:Int) < 2 ^ (64 - k):=Int.pow_pos (by omega);have hPQ:(2:Int) ^ k*2 ^ (64 - k)=18446744073709551616:=by rw [←Int.pow_add,show k+(64 - k)=64 by omega];rfl
 have e64:(min (tN (iW .u64 (64 - (iW .u64 (cK y))))) 64)=64 - k:=by
  rw [k1,pH (n:=((k:Nat):Int)) (by omega),pH (by omega)];omega
 rw [e64];have fd:∀(z:Int) (m:Nat),fD z (2 ^ m)=z / 2 ^ m:=fun z m=>Int.fdiv_eq_ediv_of_nonneg _ (Int.le_of_lt (Int.pow_pos (by omega)))
 have hhy:hi*2 ^ k < y*2 ^ k:=Int.mul_lt_mul_of_pos_right hh.2 hpk;have hh1:(hi+1)*2 ^ k<=y*2 ^ k:=Int.mul_le_mul_of_nonneg_right (by omega) (by omega);have hh2:(hi+1)*2 ^ k=hi*2 ^ k+2 ^ k:=by rw [Int.add_mul,Int.one_mul]
 have hh0:0<=hi*2 ^ k:=Int.mul_nonneg hh.1 (by omega);have hlq:0<=lo / 2 ^ (64 - k):=Int.ediv_nonneg hl.1 (by omega);have hlq2:lo / 2 ^ (64 - k) < 2 ^ k:=Int.ediv_lt_of_lt_mul hpq (by rw [hPQ];exact hl.2);rw [pH (n:=y*2 ^ k) (by omega),pH (n:=hi*2 ^ k) (by omega),fd lo (64 - k),aX8 hh.1 ⟨hlq,hlq2⟩ (by omega),pH (n:=hi*2 ^ k+lo / 2 ^ (64 - k)) (by omega)];simp only [aKt,aVp];have hY1:2147483648<=y*2 ^ k / 4294967296/\y*2 ^ k / 4294967296 < 4294967296:=by omega
 obtain⟨c1,c2⟩:=aO4 (lo*2 ^ k);have eY:y*2 ^ k / 4294967296*4294967296+y*2 ^ k % 4294967296=y*2 ^ k:=by omega
 have hH:KnH (hi*2 ^ k+lo / 2 ^ (64 - k)) (iW .u64 (lo*2 ^ k) / 4294967296) (y*2 ^ k / 4294967296) (y*2 ^ k % 4294967296):=⟨⟨by omega,by rw [eY];omega⟩,by omega,hY1,by omega⟩;obtain⟨e1,e2,e3,e4⟩:=aR6 (u:=hi*2 ^ k+lo / 2 ^ (64 - k)) (y:=y*2 ^ k / 4294967296) (by omega) (by omega);obtain⟨i1,i2⟩:=aNl hH;have um:iW .u64 (y*2 ^ k % 4294967296)=y*2 ^ k % 4294967296:=pH (by omega);have um2:iW .u64 (iW .u64 (lo*2 ^ k) % 4294967296)=iW .u64 (lo*2 ^ k) % 4294967296:=pH (by omega);rw [e2,e1,um,um2];rw [bC8 _ hH i1 (by omega) (by omega)];have hj:=bC9 (a0:=hi) (a1:=lo) (a2:=y) (s:=iW .u64 (cK y)) (u0:=iW .u64 (lo*2 ^ k) % 4294967296) hH (by omega);rw [eY] at hj ⊢;rw [hj,es];have hN:((hi*2 ^ k+lo / 2 ^ (64 - k))*4294967296+iW .u64 (lo*2 ^ k) / 4294967296)*4294967296+iW .u64 (lo*2 ^ k) % 4294967296=(hi*18446744073709551616+lo)*2 ^ k:=by
  have d1:lo*2 ^ k / 18446744073709551616=lo / 2 ^ (64 - k):=by
   rw [←hPQ,Int.mul_comm ((2:Int) ^ k),Int.mul_ediv_mul_of_pos_left _ _ hpk]
  have d2:iW .u64 (lo*2 ^ k)=lo*2 ^ k - lo*2 ^ k / 18446744073709551616*18446744073709551616:=by rw [xJ];omega
  have d3:(hi*18446744073709551616+lo)*2 ^ k=hi*2 ^ k*18446744073709551616+lo*2 ^ k:=by rw [Int.add_mul,Int.mul_right_comm]
  rw [d1] at d2;rw [d3];generalize lo*2 ^ k=a at *;generalize hi*2 ^ k=b at *;generalize lo / 2 ^ (64 - k)=c at *;omega
 have hem:(hi*18446744073709551616+lo)*2 ^ k % (y*2 ^ k)=(hi*18446744073709551616+lo) % y*2 ^ k:=by
  rw [Int.mul_comm _ ((2:Int) ^ k),Int.mul_comm y,Int.mul_emod_mul_of_pos _ _ hpk,Int.mul_comm]
 rw [hN,Int.mul_ediv_mul_of_pos_left _ _ hpk,hem,fd,Int.mul_ediv_cancel _ (by omega)]
end Go.Proofs.YtlffahoikfahlaaGreat
