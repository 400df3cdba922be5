/-
  Parts of the proofs of the laws: the executor, what functions of the program compute, and that it is what the statements ask. No premise.
-/
import Derived.Test.YtkdfcbmcgnaicaaGreatVPen3
import Derived.Shelf.SlSortCmp.Xorshift
set_option linter.unusedVariables false
set_option linter.unusedSimpArgs false
set_option maxHeartbeats 4000000
open Int renaming toNat → tN
open Inhabited renaming default → dF
namespace Go.Proofs.YtkdfcbmcgnaicaaGreat
open Go.Proofs Go.Aw Go.RowKit
set_option maxRecDepth 100000
noncomputable def qF:Code:=(aN [1,1,1,1,1] [] (aL Tryz.f110) []).1
noncomputable def qG:List K:=(aN [1,1,1,1,1] [] (aL Tryz.f110) []).2
def oF (a0:List Int)(a0_o:Nat)(a0_n:Nat)(a1:Int)(a2:Int)(a3:eK×Int)(v4c:List SV)(v4n:Nat)(v5:Int):LS:=⟨gO 60 [(0,(.s 0 (0+a0_o*1) a0_n 1)),(3,(.f 1000075 [(.a [(.p 1 0),(iv a3.2)])])),(8,(iv a1)),(9,(iv 0)),(12,(iv v5))],[(.live true true v4c),(.live false false [(.s 2 0 a3.1.1.length 10),(iv a3.1.2.1),(.s 0 0 v4n 1),(.s 3 0 a3.1.2.2.2.length 8)]),(.live false true (flat dI a3.1.1)),(.live false true (flat bZ a3.1.2.2.2))]⟩
def fB (a0:List Int)(a0_o:Nat)(a0_n:Nat)(a1:Int)(a2:Int)(a3:eK×Int):List Int×Int->(List Int×Int)⊕(List Int)
 | (v4,v5) =>
  (bif (decide ((v5:Int)≥0)) then
   (.inl ((dB ((v4.set (a0_o+tN a1) (v4.getD (a0_o+tN (W (a1+v5))) dF)).set (a0_o+tN (W (a1+v5))) (v4.getD (a0_o+tN a1) dF)) a0_o a0_n 0 v5 a1 ((a3.1.1,a3.1.2.1,(((v4.set (a0_o+tN a1) (v4.getD (a0_o+tN (W (a1+v5))) dF)).set (a0_o+tN (W (a1+v5))) (v4.getD (a0_o+tN a1) dF)),a3.1.2.2.2)),a3.2)),(W (v5 - 1))))
  else
   (.inr v4))
noncomputable def qH:Code:=(aN [1,1,1,0,1] [] (aL Tryz.f110) []).1
noncomputable def qI:List K:=(aN [1,1,1,0,1] [] (aL Tryz.f110) []).2
def oG (a0:List Int)(a0_o:Nat)(a0_n:Nat)(a1:Int)(a2:Int)(a3:eK×Int)(v1c:List SV)(v1n:Nat)(v2:Int):LS:=⟨gO 60 [(0,(.s 0 (0+a0_o*1) a0_n 1)),(3,(.f 1000075 [(.a [(.p 1 0),(iv a3.2)])])),(8,(iv a1)),(9,(iv 0)),(10,(iv (W (a2 - a1)))),(11,(iv v2))],[(.live true true v1c),(.live false false [(.s 2 0 a3.1.1.length 10),(iv a3.1.2.1),(.s 0 0 v1n 1),(.s 3 0 a3.1.2.2.2.length 8)]),(.live false true (flat dI a3.1.1)),(.live false true (flat bZ a3.1.2.2.2))]⟩
def fC (a0:List Int)(a0_o:Nat)(a0_n:Nat)(a1:Int)(a2:Int)(a3:eK×Int):List Int×Int->(List Int×Int)⊕(List Int)
 | (v1,v2) =>
  (bif (decide ((v2:Int)≥0)) then
   (.inl ((dB v1 a0_o a0_n v2 (W (a2 - a1)) a1 ((a3.1.1,a3.1.2.1,(v1,a3.1.2.2.2)),a3.2)),(W (v2 - 1))))
  else
   (.inr (aH (fB a0 a0_o a0_n a1 a2 a3) (tN ((W ((W (a2 - a1)) - 1))+1)+1) (v1,(W ((W (a2 - a1)) - 1))))))
theorem aEf (a0:List Int)(a0_o:Nat)(a0_n:Nat)(a1:Int)(a2:Int)(a3:eK×Int)(l0:a0.length<=2^63-1)(l3_1_1:a3.1.1.length<=2^63-1)(l3_1_2_2_1:a3.1.2.2.1.length<=2^63-1)(l3_1_2_2_2:a3.1.2.2.2.length<=2^63-1)(hw:a0_o+a0_n<=a0.length/\a0.length<=1048576)(hr:InR a3.1.1.length a0)(hab:0<=a1/\a1<=a2/\a2<=↑a0_n) {cx:Cx} (hcx:cx.base=4):∀(n:Nat) (v4:List Int) (v5:Int),(v4.length=a0.length)/\(InR a3.1.1.length v4)/\(-1<=v5)/\(v5 < a2 - a1)->tN (v5+1) < n->Aw.Good Tryz.prog none 9 (bodyPost Tryz.prog Tryz.f110 (RR cx (.t []) [] [(.live true true (flat c3 (aH (fB a0 a0_o a0_n a1 a2 a3) n (v4,v5)))),.un,.un,.un])) cx [] (.l qF n::qG) (oF a0 a0_o a0_n a1 a2 a3 (flat c3 v4) v4.length v5):=by
 intro n
 induction n with
 | zero=>intro v4 v5 hi hn;exact absurd hn (eL _)
 | succ n ih =>
  intro v4 v5 hi hn
  refine aS ?_
  have hw_0:W (a2 - a1)=a2 - a1:=(aR (n:=a2 - a1) (by omega) (by omega)).trans (by omega)
  have hw_1:W ((W (a2 - a1)) - 1)=a2 - a1 - 1:=(aR (n:=(W (a2 - a1)) - 1) (by omega) (by omega)).trans (by omega)
  have hw_2:W (v5 - 1)=v5 - 1:=(aR (n:=v5 - 1) (by omega) (by omega)).trans (by omega)
  have hw_3:W (a1+v5)=a1+v5:=(aR (n:=a1+v5) (by omega) (by omega)).trans (by omega)
  try obtain⟨hsd1,hsd2⟩:=(fun _=>hsd) h0
  try (have _:=h0;simp only [List.length_set] at hsd1)
  cases h0:(decide ((v5:Int)≥0)) with
  | true =>
   have q0:=cN h0
   try have hsd:=(fun _=>aSk (N:=a3.1.1.length) (l:=((v4.set (a0_o+tN a1) (v4.getD (a0_o+tN (W (a1+v5))) dF)).set (a0_o+tN (W (a1+v5))) (v4.getD (a0_o+tN a1) dF))) (o:=a0_o) (n:=a0_n) (lo:=0) (hi:=v5) (first:=a1) (c:=((a3.1.1,a3.1.2.1,(((v4.set (a0_o+tN a1) (v4.getD (a0_o+tN (W (a1+v5))) dF)).set (a0_o+tN (W (a1+v5))) (v4.getD (a0_o+tN a1) dF)),a3.1.2.2.2)),a3.2)) (by(try simp only [List.length_set]);omega) (by omega) (by omega) (by omega) (by first | exact hi.2.1 | exact InR.swap hi.2.1 (by omega) (by omega))) h0
   try obtain⟨hsd1,hsd2⟩:=(fun _=>hsd) h0
   try (have _:=h0;simp only [List.length_set] at hsd1)
   have e:=Eq.refl (fB a0 a0_o a0_n a1 a2 a3 (v4,v5));conv at e=>rhs;simp only [fB,h0,aW]
   rw [aI e]
   refine ba [.d h0,.i (W (a1+v5)) a0_n,cM aF v4 a0_o (W (a1+v5)) 0 1,.i a1 a0_n,cM aF v4 a0_o a1 0 1,.i a1 a0_n,.p (show((0+a0_o*1+tN a1*1)+1<=(flat c3 v4).length) from(aX aF (by first | omega | (simp only [Lt];omega)) (o:=0) (Nb rfl))),.i (W (a1+v5)) a0_n,.p (show((0+a0_o*1+tN (W (a1+v5))*1)+1<=(splice (flat c3 v4) (0+a0_o*1+tN a1*1) [(iv (v4.getD (a0_o+tN (W (a1+v5))) dF))]).length) from(by rw [show(splice (flat c3 v4) (0+a0_o*1+tN a1*1) [(iv (v4.getD (a0_o+tN (W (a1+v5))) dF))])=flat c3 (v4.set (a0_o+tN a1) (v4.getD (a0_o+tN (W (a1+v5))) dF)) from(aP aF (by first | omega | (simp only [Lt];omega)) (o:=0) (d:=dF) (Nb rfl) rfl)];exact aX aF (by first | omega | (simp only [Lt];omega)) (o:=0) (Nb rfl))),.c [0,1,2,3] (by have q:=(aAz ((v4.set (a0_o+tN a1) (v4.getD (a0_o+tN (W (a1+v5))) dF)).set (a0_o+tN (W (a1+v5))) (v4.getD (a0_o+tN a1) dF)) a0_o a0_n 0 v5 a1 ((a3.1.1,a3.1.2.1,(((v4.set (a0_o+tN a1) (v4.getD (a0_o+tN (W (a1+v5))) dF)).set (a0_o+tN (W (a1+v5))) (v4.getD (a0_o+tN a1) dF)),a3.1.2.2.2)),a3.2) (by omega) (by omega) (by(try simp only [Lt]);omega) (by omega) (by omega) (by first | exact hi.2.1 | exact InR.swap hi.2.1 (by omega) (by omega)) (by omega));(try dsimp only at q);rw [show flat c3 ((v4.set (a0_o+tN a1) (v4.getD (a0_o+tN (W (a1+v5))) dF)).set (a0_o+tN (W (a1+v5))) (v4.getD (a0_o+tN a1) dF))=(splice (splice (flat c3 v4) (0+a0_o*1+tN a1*1) [(iv (v4.getD (a0_o+tN (W (a1+v5))) dF))]) (0+a0_o*1+tN (W (a1+v5))*1) [(iv (v4.getD (a0_o+tN a1) dF))]) from Eq.symm (by rw [show(splice (flat c3 v4) (0+a0_o*1+tN a1*1) [(iv (v4.getD (a0_o+tN (W (a1+v5))) dF))])=flat c3 (v4.set (a0_o+tN a1) (v4.getD (a0_o+tN (W (a1+v5))) dF)) from(aP aF (by first | omega | (simp only [Lt];omega)) (o:=0) (d:=dF) (Nb rfl) rfl)];exact aP aF (by first | omega | (simp only [Lt];omega)) (o:=0) (d:=dF) (Nb rfl) rfl)] at q;(try rw [show List.length (α:=Int) ((v4.set (a0_o+tN a1) (v4.getD (a0_o+tN (W (a1+v5))) dF)).set (a0_o+tN (W (a1+v5))) (v4.getD (a0_o+tN a1) dF))=v4.length from by first | simp;done | omega] at q);exact q)] [] [0,3,8,9,12] [] hcx (m:=n) qF (qG) (oF a0 a0_o a0_n a1 a2 a3 (flat c3 (dB ((v4.set (a0_o+tN a1) (v4.getD (a0_o+tN (W (a1+v5))) dF)).set (a0_o+tN (W (a1+v5))) (v4.getD (a0_o+tN a1) dF)) a0_o a0_n 0 v5 a1 ((a3.1.1,a3.1.2.1,(((v4.set (a0_o+tN a1) (v4.getD (a0_o+tN (W (a1+v5))) dF)).set (a0_o+tN (W (a1+v5))) (v4.getD (a0_o+tN a1) dF)),a3.1.2.2.2)),a3.2))) (v4.length) (W (v5 - 1))) (by kernel_rfl) ?_
   have z0:v4.length=(dB ((v4.set (a0_o+tN a1) (v4.getD (a0_o+tN (W (a1+v5))) dF)).set (a0_o+tN (W (a1+v5))) (v4.getD (a0_o+tN a1) dF)) a0_o a0_n 0 v5 a1 ((a3.1.1,a3.1.2.1,(((v4.set (a0_o+tN a1) (v4.getD (a0_o+tN (W (a1+v5))) dF)).set (a0_o+tN (W (a1+v5))) (v4.getD (a0_o+tN a1) dF)),a3.1.2.2.2)),a3.2)).length:=by first | omega | (simp;done)
   rw [z0]
   exact ih (dB ((v4.set (a0_o+tN a1) (v4.getD (a0_o+tN (W (a1+v5))) dF)).set (a0_o+tN (W (a1+v5))) (v4.getD (a0_o+tN a1) dF)) a0_o a0_n 0 v5 a1 ((a3.1.1,a3.1.2.1,(((v4.set (a0_o+tN a1) (v4.getD (a0_o+tN (W (a1+v5))) dF)).set (a0_o+tN (W (a1+v5))) (v4.getD (a0_o+tN a1) dF)),a3.1.2.2.2)),a3.2)) (W (v5 - 1)) (by and_intros<;>(try simp only [Lt])<;>first | omega | assumption | exact hi.2.1 | exact hi.2.2.1 | exact InR.swap hi.2.1 (by omega) (by omega) | exact InR.swap hr (by omega) (by omega) | exact hsd2 | (rw [hsd1];omega)) (by omega)
  | false =>
   have q0:=cY h0
   try obtain⟨hsd1,hsd2⟩:=(fun _=>hsd) h0
   try (have _:=h0;simp only [List.length_set] at hsd1)
   have e:=Eq.refl (fB a0 a0_o a0_n a1 a2 a3 (v4,v5));conv at e=>rhs;simp only [fB,h0,aW]
   rw [aK,e]
   try dsimp only [aZ]
   try dsimp only
   exact rtn [.d h0] [] [0] [] hcx (by kernel_rfl)
theorem aEg (a0:List Int)(a0_o:Nat)(a0_n:Nat)(a1:Int)(a2:Int)(a3:eK×Int)(l0:a0.length<=2^63-1)(l3_1_1:a3.1.1.length<=2^63-1)(l3_1_2_2_1:a3.1.2.2.1.length<=2^63-1)(l3_1_2_2_2:a3.1.2.2.2.length<=2^63-1)(hw:a0_o+a0_n<=a0.length/\a0.length<=1048576)(hr:InR a3.1.1.length a0)(hab:0<=a1/\a1<=a2/\a2<=↑a0_n) {cx:Cx} (hcx:cx.base=4):∀(n:Nat) (v1:List Int) (v2:Int),(v1.length=a0.length)/\(InR a3.1.1.length v1)/\(-1<=v2)/\(v2<=a2 - a1)->tN (v2+1) < n->Aw.Good Tryz.prog none 9 (bodyPost Tryz.prog Tryz.f110 (RR cx (.t []) [] [(.live true true (flat c3 (aH (fC a0 a0_o a0_n a1 a2 a3) n (v1,v2)))),.un,.un,.un])) cx [] (.l qH n::qI) (oG a0 a0_o a0_n a1 a2 a3 (flat c3 v1) v1.length v2):=by
 intro n
 induction n with
 | zero=>intro v1 v2 hi hn;exact absurd hn (eL _)
 | succ n ih =>
  intro v1 v2 hi hn
  refine aS ?_
  have hw_0:W (a2 - a1)=a2 - a1:=(aR (n:=a2 - a1) (by omega) (by omega)).trans (by omega)
  have hw_1:W ((W (a2 - a1)) - 1)=a2 - a1 - 1:=(aR (n:=(W (a2 - a1)) - 1) (by omega) (by omega)).trans (by omega)
  have hw_2:W (v2 - 1)=v2 - 1:=(aR (n:=v2 - 1) (by omega) (by omega)).trans (by omega)
  try obtain⟨hsd1,hsd2⟩:=(fun _=>hsd) h0
  try (have _:=h0;simp only [List.length_set] at hsd1)
  cases h0:(decide ((v2:Int)≥0)) with
  | true =>
   have q0:=cN h0
   try have hsd:=(fun _=>aSk (N:=a3.1.1.length) (l:=v1) (o:=a0_o) (n:=a0_n) (lo:=v2) (hi:=(W (a2 - a1))) (first:=a1) (c:=((a3.1.1,a3.1.2.1,(v1,a3.1.2.2.2)),a3.2)) (by omega) (by omega) (by omega) (by omega) (by first | exact hi.2.1 | exact InR.swap hi.2.1 (by omega) (by omega))) h0
   try obtain⟨hsd1,hsd2⟩:=(fun _=>hsd) h0
   try (have _:=h0;simp only [List.length_set] at hsd1)
   have e:=Eq.refl (fC a0 a0_o a0_n a1 a2 a3 (v1,v2));conv at e=>rhs;simp only [fC,h0,aW]
   rw [aI e]
   refine ba [.d h0,.c [0,1,2,3] (aAz v1 a0_o a0_n v2 (W (a2 - a1)) a1 ((a3.1.1,a3.1.2.1,(v1,a3.1.2.2.2)),a3.2) (by omega) (by omega) (by(try simp only [Lt]);omega) (by omega) (by omega) (by first | exact hi.2.1 | exact InR.swap hi.2.1 (by omega) (by omega)) (by omega))] [] [0,3,8,9,10,11] [] hcx (m:=n) qH (qI) (oG a0 a0_o a0_n a1 a2 a3 (flat c3 (dB v1 a0_o a0_n v2 (W (a2 - a1)) a1 ((a3.1.1,a3.1.2.1,(v1,a3.1.2.2.2)),a3.2))) (v1.length) (W (v2 - 1))) (by kernel_rfl) ?_
   have z0:v1.length=(dB v1 a0_o a0_n v2 (W (a2 - a1)) a1 ((a3.1.1,a3.1.2.1,(v1,a3.1.2.2.2)),a3.2)).length:=by first | omega | (simp;done)
   rw [z0]
   exact ih (dB v1 a0_o a0_n v2 (W (a2 - a1)) a1 ((a3.1.1,a3.1.2.1,(v1,a3.1.2.2.2)),a3.2)) (W (v2 - 1)) (by and_intros<;>(try simp only [Lt])<;>first | omega | assumption | exact hi.2.1 | exact hi.2.2.1 | exact InR.swap hi.2.1 (by omega) (by omega) | exact InR.swap hr (by omega) (by omega) | exact hsd2 | (rw [hsd1];omega)) (by omega)
  | false =>
   have q0:=cY h0
   try obtain⟨hsd1,hsd2⟩:=(fun _=>hsd) h0
   try (have _:=h0;simp only [List.length_set] at hsd1)
   have e:=Eq.refl (fC a0 a0_o a0_n a1 a2 a3 (v1,v2));conv at e=>rhs;simp only [fC,h0,aW]
   rw [aK,e]
   refine en [.d h0] [] [0,3,8,9,12] [] hcx qF (qG) (oF a0 a0_o a0_n a1 a2 a3 (flat c3 v1) (v1.length) (W ((W (a2 - a1)) - 1))) (tN ((W ((W (a2 - a1)) - 1))+1)+1) (by kernel_rfl) ?_
   exact aEf a0 a0_o a0_n a1 a2 a3 l0 l3_1_1 l3_1_2_2_1 l3_1_2_2_2 hw hr hab hcx (tN ((W ((W (a2 - a1)) - 1))+1)+1) v1 (W ((W (a2 - a1)) - 1)) (by and_intros<;>(try simp only [Lt])<;>first | omega | assumption | exact hi.2.1 | exact hi.2.2.1 | exact InR.swap hi.2.1 (by omega) (by omega) | exact InR.swap hr (by omega) (by omega) | exact hsd2 | (rw [hsd1];omega)) (by omega)
def hH (a0:List Int)(a0_o:Nat)(a0_n:Nat)(a1:Int)(a2:Int)(a3:eK×Int):List Int :=
 (aH (fC a0 a0_o a0_n a1 a2 a3) (tN ((W (Int.tdiv (W ((W (a2 - a1)) - 1)) 2))+1)+1) (a0,(W (Int.tdiv (W ((W (a2 - a1)) - 1)) 2))))
theorem aIr (a0:List Int)(a0_o:Nat)(a0_n:Nat)(a1:Int)(a2:Int)(a3:eK×Int)(l0:a0.length<=2^63-1)(l3_1_1:a3.1.1.length<=2^63-1)(l3_1_2_2_1:a3.1.2.2.1.length<=2^63-1)(l3_1_2_2_2:a3.1.2.2.2.length<=2^63-1)(hw:a0_o+a0_n<=a0.length/\a0.length<=1048576)(hr:InR a3.1.1.length a0)(hab:0<=a1/\a1<=a2/\a2<=↑a0_n):Con Tryz.prog 110 [(.s 0 (0+a0_o*1) a0_n 1),(iv a1),(iv a2),(.f 1000075 [(.a [(.p 1 0),(iv a3.2)])])] [(.live true true (flat c3 a0)),(.live false false [(.s 2 0 a3.1.1.length 10),(iv a3.1.2.1),(.s 0 0 a0.length 1),(.s 3 0 a3.1.2.2.2.length 8)]),(.live false true (flat dI a3.1.1)),(.live false true (flat bZ a3.1.2.2.2))] (.t []) [] [(.live true true (flat c3 (hH a0 a0_o a0_n a1 a2 a3))),.un,.un,.un]:=by
 refine bA Tryz.func110 (by kernel_rfl) fun cx hcx=>?_
 have hw_0:W (a2 - a1)=a2 - a1:=(aR (n:=a2 - a1) (by omega) (by omega)).trans (by omega)
 have hw_1:W ((W (a2 - a1)) - 1)=a2 - a1 - 1:=(aR (n:=(W (a2 - a1)) - 1) (by omega) (by omega)).trans (by omega)
 have hw_m:=aN3 (n:=a2 - a1) (by omega)
 rw [←hw_0] at hw_m
 have e:=Eq.refl (hH a0 a0_o a0_n a1 a2 a3);conv at e=>rhs;simp only [hH]
 rw [e]
 refine en [.p (show(2:Int)≠0 from by decide)] [] [0,3,8,9,10,11] [] hcx qH (qI) (oG a0 a0_o a0_n a1 a2 a3 (flat c3 a0) (a0.length) (W (Int.tdiv (W ((W (a2 - a1)) - 1)) 2))) (tN ((W (Int.tdiv (W ((W (a2 - a1)) - 1)) 2))+1)+1) (by kernel_rfl) ?_
 exact aEg a0 a0_o a0_n a1 a2 a3 l0 l3_1_1 l3_1_2_2_1 l3_1_2_2_2 hw hr hab hcx (tN ((W (Int.tdiv (W ((W (a2 - a1)) - 1)) 2))+1)+1) a0 (W (Int.tdiv (W ((W (a2 - a1)) - 1)) 2)) (by and_intros<;>(try simp only [Lt])<;>first | omega | assumption | exact hi.2.1 | exact hi.2.2.1 | exact InR.swap hi.2.1 (by omega) (by omega) | exact InR.swap hr (by omega) (by omega) | exact hsd2 | (rw [hsd1];omega)) (by omega)
end Go.Proofs.YtkdfcbmcgnaicaaGreat
namespace Go.Proofs.YtkdfcbmcgnaicaaGreat
open Go.Proofs Go.Aw Go.RowKit
set_option maxRecDepth 100000
theorem aGs (a0:List Int)(o n:Nat)(a1 a2 a3:Int)(c:qT) :
 ((aT a0 o n a1 a2 a3 c).1=a1/\(aT a0 o n a1 a2 a3 c).2.1=a2)\/((aT a0 o n a1 a2 a3 c).1=a2/\(aT a0 o n a1 a2 a3 c).2.1=a1):=by
 unfold aT
 rw [Bool.cond_eq_ite]
 split
 ·exact .inr ⟨rfl,rfl⟩
 ·exact .inl ⟨rfl,rfl⟩
theorem aN4 (a0 v:List Int)(o n:Nat)(a1 a2 a3:Int)(c:qT):aT a0 o n a1 a2 a3 ((c.1.1,c.1.2.1,(v,c.1.2.2.2)),c.2)=aT a0 o n a1 a2 a3 c:=rfl
def dN (a0:List Int)(a0_o:Nat)(a0_n:Nat)(a1:Int)(a2:Int)(a3:Int)(a4:Int)(a5:eK×Int):Int×Int :=
 ((aT a0 a0_o a0_n (aT a0 a0_o a0_n a1 a2 a4 ((a5.1.1,a5.1.2.1,(a0,a5.1.2.2.2)),a5.2)).1 (aT a0 a0_o a0_n (aT a0 a0_o a0_n a1 a2 a4 ((a5.1.1,a5.1.2.1,(a0,a5.1.2.2.2)),a5.2)).2.1 a3 (aT a0 a0_o a0_n a1 a2 a4 ((a5.1.1,a5.1.2.1,(a0,a5.1.2.2.2)),a5.2)).2.2 ((a5.1.1,a5.1.2.1,(a0,a5.1.2.2.2)),a5.2)).1 (aT a0 a0_o a0_n (aT a0 a0_o a0_n a1 a2 a4 ((a5.1.1,a5.1.2.1,(a0,a5.1.2.2.2)),a5.2)).2.1 a3 (aT a0 a0_o a0_n a1 a2 a4 ((a5.1.1,a5.1.2.1,(a0,a5.1.2.2.2)),a5.2)).2.2 ((a5.1.1,a5.1.2.1,(a0,a5.1.2.2.2)),a5.2)).2.2 ((a5.1.1,a5.1.2.1,(a0,a5.1.2.2.2)),a5.2)).2.1,(aT a0 a0_o a0_n (aT a0 a0_o a0_n a1 a2 a4 ((a5.1.1,a5.1.2.1,(a0,a5.1.2.2.2)),a5.2)).1 (aT a0 a0_o a0_n (aT a0 a0_o a0_n a1 a2 a4 ((a5.1.1,a5.1.2.1,(a0,a5.1.2.2.2)),a5.2)).2.1 a3 (aT a0 a0_o a0_n a1 a2 a4 ((a5.1.1,a5.1.2.1,(a0,a5.1.2.2.2)),a5.2)).2.2 ((a5.1.1,a5.1.2.1,(a0,a5.1.2.2.2)),a5.2)).1 (aT a0 a0_o a0_n (aT a0 a0_o a0_n a1 a2 a4 ((a5.1.1,a5.1.2.1,(a0,a5.1.2.2.2)),a5.2)).2.1 a3 (aT a0 a0_o a0_n a1 a2 a4 ((a5.1.1,a5.1.2.1,(a0,a5.1.2.2.2)),a5.2)).2.2 ((a5.1.1,a5.1.2.1,(a0,a5.1.2.2.2)),a5.2)).2.2 ((a5.1.1,a5.1.2.1,(a0,a5.1.2.2.2)),a5.2)).2.2)
theorem tU (a0:List Int)(a0_o:Nat)(a0_n:Nat)(a1:Int)(a2:Int)(a3:Int)(a4:Int)(a5:eK×Int)(l0:a0.length<=2^63-1)(l5_1_1:a5.1.1.length<=2^63-1)(l5_1_2_2_1:a5.1.2.2.1.length<=2^63-1)(l5_1_2_2_2:a5.1.2.2.2.length<=2^63-1)(hw:a0_o+a0_n<=a0.length/\a0.length<=1048576)(hr:InR a5.1.1.length a0)(hab:0<=a1/\a1 < ↑a0_n/\0<=a2/\a2 < ↑a0_n/\0<=a3/\a3 < ↑a0_n):Con Tryz.prog 132 [(.s 0 (0+a0_o*1) a0_n 1),(iv a1),(iv a2),(iv a3),(.p 1 0),(.f 1000075 [(.a [(.p 2 0),(iv a5.2)])])] [(.live false true (flat c3 a0)),(.live true false [(iv a4)]),(.live false false [(.s 3 0 a5.1.1.length 10),(iv a5.1.2.1),(.s 0 0 a0.length 1),(.s 4 0 a5.1.2.2.2.length 8)]),(.live false true (flat dI a5.1.1)),(.live false true (flat bZ a5.1.2.2.2))] (iv (dN a0 a0_o a0_n a1 a2 a3 a4 a5).1) [] [.un,(.live true false [(iv (dN a0 a0_o a0_n a1 a2 a3 a4 a5).2)]),.un,.un,.un]:=by
 refine bA Tryz.func132 (by kernel_rfl) fun cx hcx=>?_
 have ho1:=aGs a0 a0_o a0_n a1 a2 a4 ((a5.1.1,a5.1.2.1,(a0,a5.1.2.2.2)),a5.2)
 have ho2:=aGs a0 a0_o a0_n (aT a0 a0_o a0_n a1 a2 a4 ((a5.1.1,a5.1.2.1,(a0,a5.1.2.2.2)),a5.2)).2.1 a3 (aT a0 a0_o a0_n a1 a2 a4 ((a5.1.1,a5.1.2.1,(a0,a5.1.2.2.2)),a5.2)).2.2 ((a5.1.1,a5.1.2.1,(a0,a5.1.2.2.2)),a5.2)
 have e:=Eq.refl (dN a0 a0_o a0_n a1 a2 a3 a4 a5);conv at e=>rhs;simp only [dN]
 rw [e]
 try dsimp only [aZ]
 try dsimp only
 exact wG [.c [0,1,2,3,4] (tT a0 a0_o a0_n a1 a2 a4 ((a5.1.1,a5.1.2.1,(a0,a5.1.2.2.2)),a5.2) (by omega) (by omega) (by omega) (by omega) (by omega) (by omega) (by omega)),.c [0,1,2,3,4] (tT a0 a0_o a0_n (aT a0 a0_o a0_n a1 a2 a4 ((a5.1.1,a5.1.2.1,(a0,a5.1.2.2.2)),a5.2)).2.1 a3 (aT a0 a0_o a0_n a1 a2 a4 ((a5.1.1,a5.1.2.1,(a0,a5.1.2.2.2)),a5.2)).2.2 ((a5.1.1,a5.1.2.1,(a0,a5.1.2.2.2)),a5.2) (by omega) (by omega) (by omega) (by omega) (by omega) (by omega) (by omega)),.c [0,1,2,3,4] (tT a0 a0_o a0_n (aT a0 a0_o a0_n a1 a2 a4 ((a5.1.1,a5.1.2.1,(a0,a5.1.2.2.2)),a5.2)).1 (aT a0 a0_o a0_n (aT a0 a0_o a0_n a1 a2 a4 ((a5.1.1,a5.1.2.1,(a0,a5.1.2.2.2)),a5.2)).2.1 a3 (aT a0 a0_o a0_n a1 a2 a4 ((a5.1.1,a5.1.2.1,(a0,a5.1.2.2.2)),a5.2)).2.2 ((a5.1.1,a5.1.2.1,(a0,a5.1.2.2.2)),a5.2)).1 (aT a0 a0_o a0_n (aT a0 a0_o a0_n a1 a2 a4 ((a5.1.1,a5.1.2.1,(a0,a5.1.2.2.2)),a5.2)).2.1 a3 (aT a0 a0_o a0_n a1 a2 a4 ((a5.1.1,a5.1.2.1,(a0,a5.1.2.2.2)),a5.2)).2.2 ((a5.1.1,a5.1.2.1,(a0,a5.1.2.2.2)),a5.2)).2.2 ((a5.1.1,a5.1.2.1,(a0,a5.1.2.2.2)),a5.2) (by omega) (by omega) (by omega) (by omega) (by omega) (by omega) (by omega))] [] [1] [] hcx (by kernel_rfl)
def dO (a0:List Int)(a0_o:Nat)(a0_n:Nat)(a1:Int)(a2:Int)(a3:eK×Int):Int×Int :=
 ((dN a0 a0_o a0_n (W (a1 - 1)) a1 (W (a1+1)) a2 ((a3.1.1,a3.1.2.1,(a0,a3.1.2.2.2)),a3.2)).1,(dN a0 a0_o a0_n (W (a1 - 1)) a1 (W (a1+1)) a2 ((a3.1.1,a3.1.2.1,(a0,a3.1.2.2.2)),a3.2)).2)
theorem tV (a0:List Int)(a0_o:Nat)(a0_n:Nat)(a1:Int)(a2:Int)(a3:eK×Int)(l0:a0.length<=2^63-1)(l3_1_1:a3.1.1.length<=2^63-1)(l3_1_2_2_1:a3.1.2.2.1.length<=2^63-1)(l3_1_2_2_2:a3.1.2.2.2.length<=2^63-1)(hw:a0_o+a0_n<=a0.length/\a0.length<=1048576)(hr:InR a3.1.1.length a0)(hab:1<=a1/\a1+1 < ↑a0_n):Con Tryz.prog 131 [(.s 0 (0+a0_o*1) a0_n 1),(iv a1),(.p 1 0),(.f 1000075 [(.a [(.p 2 0),(iv a3.2)])])] [(.live false true (flat c3 a0)),(.live true false [(iv a2)]),(.live false false [(.s 3 0 a3.1.1.length 10),(iv a3.1.2.1),(.s 0 0 a0.length 1),(.s 4 0 a3.1.2.2.2.length 8)]),(.live false true (flat dI a3.1.1)),(.live false true (flat bZ a3.1.2.2.2))] (iv (dO a0 a0_o a0_n a1 a2 a3).1) [] [.un,(.live true false [(iv (dO a0 a0_o a0_n a1 a2 a3).2)]),.un,.un,.un]:=by
 refine bA Tryz.func131 (by kernel_rfl) fun cx hcx=>?_
 have hw_0:W (a1 - 1)=a1 - 1:=(aR (n:=a1 - 1) (by omega) (by omega)).trans (by omega)
 have hw_1:W (a1+1)=a1+1:=(aR (n:=a1+1) (by omega) (by omega)).trans (by omega)
 have e:=Eq.refl (dO a0 a0_o a0_n a1 a2 a3);conv at e=>rhs;simp only [dO]
 rw [e]
 try dsimp only [aZ]
 try dsimp only
 exact wG [.c [0,1,2,3,4] (tU a0 a0_o a0_n (W (a1 - 1)) a1 (W (a1+1)) a2 ((a3.1.1,a3.1.2.1,(a0,a3.1.2.2.2)),a3.2) (by omega) (by omega) (by omega) (by omega) (by omega) (by omega) (by omega))] [] [1] [] hcx (by kernel_rfl)
theorem aU5 (a0:List Int)(o n:Nat)(a1 a2 a3 s:Int)(c:qT):(dN a0 o n a1 a2 a3 s c).1=a1\/(dN a0 o n a1 a2 a3 s c).1=a2\/(dN a0 o n a1 a2 a3 s c).1=a3:=by
 unfold dN
 dsimp only
 simp only [aN4]
 rcases aGs a0 o n a1 a2 s c with⟨h1,h2⟩ | ⟨h1,h2⟩<;>rcases aGs a0 o n (aT a0 o n a1 a2 s c).2.1 a3 (aT a0 o n a1 a2 s c).2.2 c with⟨g1,g2⟩ | ⟨g1,g2⟩ <;>
  rcases aGs a0 o n (aT a0 o n a1 a2 s c).1 (aT a0 o n (aT a0 o n a1 a2 s c).2.1 a3 (aT a0 o n a1 a2 s c).2.2 c).1 (aT a0 o n (aT a0 o n a1 a2 s c).2.1 a3 (aT a0 o n a1 a2 s c).2.2 c).2.2 c with⟨k1,k2⟩ | ⟨k1,k2⟩<;>rw [k2]<;>simp_all
theorem aU6 (a0:List Int)(o n:Nat)(a1 s:Int)(c:qT):(dO a0 o n a1 s c).1=W (a1 - 1)\/(dO a0 o n a1 s c).1=a1\/(dO a0 o n a1 s c).1=W (a1+1):=aU5 _ _ _ _ _ _ _ _
theorem aCs {x:Int} (h:0<=x/\x<=1048576):W (Int.tdiv x 4)=x / 4:=by rw [Int.tdiv_eq_ediv_of_nonneg h.1,aR (by omega) (by omega)]
theorem eH {a0:List Int} {o n:Nat} {a1 s:Int} {c:qT} (h:1<=a1/\a1+1 < (n:Int)/\(n:Int)<=1048576):0<=(dO a0 o n a1 s c).1/\(dO a0 o n a1 s c).1 < n:=by
 have hm:=aU6 a0 o n a1 s c
 rw [aR (n:=a1 - 1) (by omega) (by omega),aR (n:=a1+1) (by omega) (by omega)] at hm
 omega
def bH (a0:List Int)(a0_o:Nat)(a0_n:Nat)(a1:Int)(a2:Int)(a3:eK×Int):=(dO a0 a0_o a0_n (W (a1+(W ((W (Int.tdiv (W (a2 - a1)) 4))*1)))) 0 ((a3.1.1,a3.1.2.1,(a0,a3.1.2.2.2)),a3.2))
def bI (a0:List Int)(a0_o:Nat)(a0_n:Nat)(a1:Int)(a2:Int)(a3:eK×Int):=(dO a0 a0_o a0_n (W (a1+(W ((W (Int.tdiv (W (a2 - a1)) 4))*2)))) (bH a0 a0_o a0_n a1 a2 a3).2 ((a3.1.1,a3.1.2.1,(a0,a3.1.2.2.2)),a3.2))
def bJ (a0:List Int)(a0_o:Nat)(a0_n:Nat)(a1:Int)(a2:Int)(a3:eK×Int):=(dO a0 a0_o a0_n (W (a1+(W ((W (Int.tdiv (W (a2 - a1)) 4))*3)))) (bI a0 a0_o a0_n a1 a2 a3).2 ((a3.1.1,a3.1.2.1,(a0,a3.1.2.2.2)),a3.2))
def gB (a0:List Int)(a0_o:Nat)(a0_n:Nat)(a1:Int)(a2:Int)(a3:eK×Int):=(dN a0 a0_o a0_n (bH a0 a0_o a0_n a1 a2 a3).1 (bI a0 a0_o a0_n a1 a2 a3).1 (bJ a0 a0_o a0_n a1 a2 a3).1 (bJ a0 a0_o a0_n a1 a2 a3).2 ((a3.1.1,a3.1.2.1,(a0,a3.1.2.2.2)),a3.2))
def gC (a0:List Int)(a0_o:Nat)(a0_n:Nat)(a1:Int)(a2:Int)(a3:eK×Int):=(dN a0 a0_o a0_n (W (a1+(W ((W (Int.tdiv (W (a2 - a1)) 4))*1)))) (W (a1+(W ((W (Int.tdiv (W (a2 - a1)) 4))*2)))) (W (a1+(W ((W (Int.tdiv (W (a2 - a1)) 4))*3)))) 0 ((a3.1.1,a3.1.2.1,(a0,a3.1.2.2.2)),a3.2))
def bD (a0:List Int)(a0_o:Nat)(a0_n:Nat)(a1:Int)(a2:Int)(a3:eK×Int):Int×Int :=
 (bif (decide (((W (a2 - a1)):Int)≥8)) then
  (bif (decide (((W (a2 - a1)):Int)≥50)) then
   (bif (((gB a0 a0_o a0_n a1 a2 a3).2:Int) == 0) then
    ((gB a0 a0_o a0_n a1 a2 a3).1,1)
   else
    (bif (((gB a0 a0_o a0_n a1 a2 a3).2:Int) == 12) then
     ((gB a0 a0_o a0_n a1 a2 a3).1,2)
    else
     ((gB a0 a0_o a0_n a1 a2 a3).1,0)))
  else
   (bif (((gC a0 a0_o a0_n a1 a2 a3).2:Int) == 0) then
    ((gC a0 a0_o a0_n a1 a2 a3).1,1)
   else
    (bif (((gC a0 a0_o a0_n a1 a2 a3).2:Int) == 12) then
     ((gC a0 a0_o a0_n a1 a2 a3).1,2)
    else
     ((gC a0 a0_o a0_n a1 a2 a3).1,0))))
 else
  ((W (a1+(W ((W (Int.tdiv (W (a2 - a1)) 4))*2)))),1))
theorem aIs (a0:List Int)(a0_o:Nat)(a0_n:Nat)(a1:Int)(a2:Int)(a3:eK×Int)(l0:a0.length<=2^63-1)(l3_1_1:a3.1.1.length<=2^63-1)(l3_1_2_2_1:a3.1.2.2.1.length<=2^63-1)(l3_1_2_2_2:a3.1.2.2.2.length<=2^63-1)(hw:a0_o+a0_n<=a0.length/\a0.length<=1048576)(hr:InR a3.1.1.length a0)(hab:0<=a1/\a1 < a2/\a2<=↑a0_n):Con Tryz.prog 112 [(.s 0 (0+a0_o*1) a0_n 1),(iv a1),(iv a2),(.f 1000075 [(.a [(.p 1 0),(iv a3.2)])])] [(.live false true (flat c3 a0)),(.live false false [(.s 2 0 a3.1.1.length 10),(iv a3.1.2.1),(.s 0 0 a0.length 1),(.s 3 0 a3.1.2.2.2.length 8)]),(.live false true (flat dI a3.1.1)),(.live false true (flat bZ a3.1.2.2.2))] (.t (k2 (bD a0 a0_o a0_n a1 a2 a3))) []:=by
 refine bA Tryz.func112 (by kernel_rfl) fun cx hcx=>?_
 have hw_0:W (a2 - a1)=a2 - a1:=(aR (n:=a2 - a1) (by omega) (by omega)).trans (by omega)
 have hq4:=aCs (x:=W (a2 - a1)) (by omega)
 have hc_1:(W (a1+(W ((W (Int.tdiv (W (a2 - a1)) 4))*1))))=a1+(a2 - a1) / 4*1:=by rw [hq4,hw_0];exact(aR (by rw [aR (by omega) (by omega)];omega) (by rw [aR (by omega) (by omega)];omega)).trans (by rw [aR (by omega) (by omega)])
 have hc_2:(W (a1+(W ((W (Int.tdiv (W (a2 - a1)) 4))*2))))=a1+(a2 - a1) / 4*2:=by rw [hq4,hw_0];exact(aR (by rw [aR (by omega) (by omega)];omega) (by rw [aR (by omega) (by omega)];omega)).trans (by rw [aR (by omega) (by omega)])
 have hc_3:(W (a1+(W ((W (Int.tdiv (W (a2 - a1)) 4))*3))))=a1+(a2 - a1) / 4*3:=by rw [hq4,hw_0];exact(aR (by rw [aR (by omega) (by omega)];omega) (by rw [aR (by omega) (by omega)];omega)).trans (by rw [aR (by omega) (by omega)])
 let t0:List (St Tryz.prog):=[.p (show(4:Int)≠0 from by decide),.p (show(4:Int)≠0 from by decide),.p (show(4:Int)≠0 from by decide)]
 cases h0:(decide (((W (a2 - a1)):Int)≥8)) with
 | true =>
  have q0:=cN h0
  let t1:List (St Tryz.prog):=(t0++[.d h0])
  cases h1:(decide (((W (a2 - a1)):Int)≥50)) with
  | true =>
   have q1:=cN h1
   try have hb1:0<=(bH a0 a0_o a0_n a1 a2 a3).1/\(bH a0 a0_o a0_n a1 a2 a3).1 < ↑a0_n:=(fun _=>eH (by omega)) h1
   try have hb2:0<=(bI a0 a0_o a0_n a1 a2 a3).1/\(bI a0 a0_o a0_n a1 a2 a3).1 < ↑a0_n:=(fun _=>eH (by omega)) h1
   try have hb3:0<=(bJ a0 a0_o a0_n a1 a2 a3).1/\(bJ a0 a0_o a0_n a1 a2 a3).1 < ↑a0_n:=(fun _=>eH (by omega)) h1
   let t2:List (St Tryz.prog):=(t1++[.d h1,.c [0,4,1,2,3] (tV a0 a0_o a0_n (W (a1+(W ((W (Int.tdiv (W (a2 - a1)) 4))*1)))) 0 ((a3.1.1,a3.1.2.1,(a0,a3.1.2.2.2)),a3.2) (by omega) (by omega) (by omega) (by omega) (by omega) (by omega) (by omega)),.c [0,4,1,2,3] (tV a0 a0_o a0_n (W (a1+(W ((W (Int.tdiv (W (a2 - a1)) 4))*2)))) (bH a0 a0_o a0_n a1 a2 a3).2 ((a3.1.1,a3.1.2.1,(a0,a3.1.2.2.2)),a3.2) (by omega) (by omega) (by omega) (by omega) (by omega) (by omega) (by omega)),.c [0,4,1,2,3] (tV a0 a0_o a0_n (W (a1+(W ((W (Int.tdiv (W (a2 - a1)) 4))*3)))) (bI a0 a0_o a0_n a1 a2 a3).2 ((a3.1.1,a3.1.2.1,(a0,a3.1.2.2.2)),a3.2) (by omega) (by omega) (by omega) (by omega) (by omega) (by omega) (by omega)),.c [0,4,1,2,3] (tU a0 a0_o a0_n (bH a0 a0_o a0_n a1 a2 a3).1 (bI a0 a0_o a0_n a1 a2 a3).1 (bJ a0 a0_o a0_n a1 a2 a3).1 (bJ a0 a0_o a0_n a1 a2 a3).2 ((a3.1.1,a3.1.2.1,(a0,a3.1.2.2.2)),a3.2) (by omega) (by omega) (by omega) (by omega) (by omega) (by omega) (by omega))])
   cases h2:(((gB a0 a0_o a0_n a1 a2 a3).2:Int) == 0) with
   | true =>
    have q2:=eq_of_beq h2
    try have hb1:0<=(bH a0 a0_o a0_n a1 a2 a3).1/\(bH a0 a0_o a0_n a1 a2 a3).1 < ↑a0_n:=(fun _=>eH (by omega)) h1
    try have hb2:0<=(bI a0 a0_o a0_n a1 a2 a3).1/\(bI a0 a0_o a0_n a1 a2 a3).1 < ↑a0_n:=(fun _=>eH (by omega)) h1
    try have hb3:0<=(bJ a0 a0_o a0_n a1 a2 a3).1/\(bJ a0 a0_o a0_n a1 a2 a3).1 < ↑a0_n:=(fun _=>eH (by omega)) h1
    have e:=Eq.refl (bD a0 a0_o a0_n a1 a2 a3);conv at e=>rhs;simp only [bD,h0,h1,h2,aW]
    rw [e]
    exact rt (t2++[.d h2]) [] [] hcx (by kernel_rfl)
   | false =>
    have q2:=ne_of_beq_false h2
    try have hb1:0<=(bH a0 a0_o a0_n a1 a2 a3).1/\(bH a0 a0_o a0_n a1 a2 a3).1 < ↑a0_n:=(fun _=>eH (by omega)) h1
    try have hb2:0<=(bI a0 a0_o a0_n a1 a2 a3).1/\(bI a0 a0_o a0_n a1 a2 a3).1 < ↑a0_n:=(fun _=>eH (by omega)) h1
    try have hb3:0<=(bJ a0 a0_o a0_n a1 a2 a3).1/\(bJ a0 a0_o a0_n a1 a2 a3).1 < ↑a0_n:=(fun _=>eH (by omega)) h1
    let t3:List (St Tryz.prog):=(t2++[.d h2])
    cases h3:(((gB a0 a0_o a0_n a1 a2 a3).2:Int) == 12) with
    | true =>
     have q3:=eq_of_beq h3
     try have hb1:0<=(bH a0 a0_o a0_n a1 a2 a3).1/\(bH a0 a0_o a0_n a1 a2 a3).1 < ↑a0_n:=(fun _=>eH (by omega)) h1
     try have hb2:0<=(bI a0 a0_o a0_n a1 a2 a3).1/\(bI a0 a0_o a0_n a1 a2 a3).1 < ↑a0_n:=(fun _=>eH (by omega)) h1
     try have hb3:0<=(bJ a0 a0_o a0_n a1 a2 a3).1/\(bJ a0 a0_o a0_n a1 a2 a3).1 < ↑a0_n:=(fun _=>eH (by omega)) h1
     have e:=Eq.refl (bD a0 a0_o a0_n a1 a2 a3);conv at e=>rhs;simp only [bD,h0,h1,h2,h3,aW]
     rw [e]
     exact rt (t3++[.d h3]) [] [] hcx (by kernel_rfl)
    | false =>
     have q3:=ne_of_beq_false h3
     try have hb1:0<=(bH a0 a0_o a0_n a1 a2 a3).1/\(bH a0 a0_o a0_n a1 a2 a3).1 < ↑a0_n:=(fun _=>eH (by omega)) h1
     try have hb2:0<=(bI a0 a0_o a0_n a1 a2 a3).1/\(bI a0 a0_o a0_n a1 a2 a3).1 < ↑a0_n:=(fun _=>eH (by omega)) h1
     try have hb3:0<=(bJ a0 a0_o a0_n a1 a2 a3).1/\(bJ a0 a0_o a0_n a1 a2 a3).1 < ↑a0_n:=(fun _=>eH (by omega)) h1
     have e:=Eq.refl (bD a0 a0_o a0_n a1 a2 a3);conv at e=>rhs;simp only [bD,h0,h1,h2,h3,aW]
     rw [e]
     exact rt (t3++[.d h3]) [] [] hcx (by kernel_rfl)
  | false =>
   have q1:=cY h1
   try have hb1:0<=(bH a0 a0_o a0_n a1 a2 a3).1/\(bH a0 a0_o a0_n a1 a2 a3).1 < ↑a0_n:=(fun _=>eH (by omega)) h1
   try have hb2:0<=(bI a0 a0_o a0_n a1 a2 a3).1/\(bI a0 a0_o a0_n a1 a2 a3).1 < ↑a0_n:=(fun _=>eH (by omega)) h1
   try have hb3:0<=(bJ a0 a0_o a0_n a1 a2 a3).1/\(bJ a0 a0_o a0_n a1 a2 a3).1 < ↑a0_n:=(fun _=>eH (by omega)) h1
   let t2:List (St Tryz.prog):=(t1++[.d h1,.c [0,4,1,2,3] (tU a0 a0_o a0_n (W (a1+(W ((W (Int.tdiv (W (a2 - a1)) 4))*1)))) (W (a1+(W ((W (Int.tdiv (W (a2 - a1)) 4))*2)))) (W (a1+(W ((W (Int.tdiv (W (a2 - a1)) 4))*3)))) 0 ((a3.1.1,a3.1.2.1,(a0,a3.1.2.2.2)),a3.2) (by omega) (by omega) (by omega) (by omega) (by omega) (by omega) (by omega))])
   cases h2:(((gC a0 a0_o a0_n a1 a2 a3).2:Int) == 0) with
   | true =>
    have q2:=eq_of_beq h2
    try have hb1:0<=(bH a0 a0_o a0_n a1 a2 a3).1/\(bH a0 a0_o a0_n a1 a2 a3).1 < ↑a0_n:=(fun _=>eH (by omega)) h1
    try have hb2:0<=(bI a0 a0_o a0_n a1 a2 a3).1/\(bI a0 a0_o a0_n a1 a2 a3).1 < ↑a0_n:=(fun _=>eH (by omega)) h1
    try have hb3:0<=(bJ a0 a0_o a0_n a1 a2 a3).1/\(bJ a0 a0_o a0_n a1 a2 a3).1 < ↑a0_n:=(fun _=>eH (by omega)) h1
    have e:=Eq.refl (bD a0 a0_o a0_n a1 a2 a3);conv at e=>rhs;simp only [bD,h0,h1,h2,aW]
    rw [e]
    exact rt (t2++[.d h2]) [] [] hcx (by kernel_rfl)
   | false =>
    have q2:=ne_of_beq_false h2
    try have hb1:0<=(bH a0 a0_o a0_n a1 a2 a3).1/\(bH a0 a0_o a0_n a1 a2 a3).1 < ↑a0_n:=(fun _=>eH (by omega)) h1
    try have hb2:0<=(bI a0 a0_o a0_n a1 a2 a3).1/\(bI a0 a0_o a0_n a1 a2 a3).1 < ↑a0_n:=(fun _=>eH (by omega)) h1
    try have hb3:0<=(bJ a0 a0_o a0_n a1 a2 a3).1/\(bJ a0 a0_o a0_n a1 a2 a3).1 < ↑a0_n:=(fun _=>eH (by omega)) h1
    let t3:List (St Tryz.prog):=(t2++[.d h2])
    cases h3:(((gC a0 a0_o a0_n a1 a2 a3).2:Int) == 12) with
    | true =>
     have q3:=eq_of_beq h3
     try have hb1:0<=(bH a0 a0_o a0_n a1 a2 a3).1/\(bH a0 a0_o a0_n a1 a2 a3).1 < ↑a0_n:=(fun _=>eH (by omega)) h1
     try have hb2:0<=(bI a0 a0_o a0_n a1 a2 a3).1/\(bI a0 a0_o a0_n a1 a2 a3).1 < ↑a0_n:=(fun _=>eH (by omega)) h1
     try have hb3:0<=(bJ a0 a0_o a0_n a1 a2 a3).1/\(bJ a0 a0_o a0_n a1 a2 a3).1 < ↑a0_n:=(fun _=>eH (by omega)) h1
     have e:=Eq.refl (bD a0 a0_o a0_n a1 a2 a3);conv at e=>rhs;simp only [bD,h0,h1,h2,h3,aW]
     rw [e]
     exact rt (t3++[.d h3]) [] [] hcx (by kernel_rfl)
    | false =>
     have q3:=ne_of_beq_false h3
     try have hb1:0<=(bH a0 a0_o a0_n a1 a2 a3).1/\(bH a0 a0_o a0_n a1 a2 a3).1 < ↑a0_n:=(fun _=>eH (by omega)) h1
     try have hb2:0<=(bI a0 a0_o a0_n a1 a2 a3).1/\(bI a0 a0_o a0_n a1 a2 a3).1 < ↑a0_n:=(fun _=>eH (by omega)) h1
     try have hb3:0<=(bJ a0 a0_o a0_n a1 a2 a3).1/\(bJ a0 a0_o a0_n a1 a2 a3).1 < ↑a0_n:=(fun _=>eH (by omega)) h1
     have e:=Eq.refl (bD a0 a0_o a0_n a1 a2 a3);conv at e=>rhs;simp only [bD,h0,h1,h2,h3,aW]
     rw [e]
     exact rt (t3++[.d h3]) [] [] hcx (by kernel_rfl)
 | false =>
  have q0:=cY h0
  have e:=Eq.refl (bD a0 a0_o a0_n a1 a2 a3);conv at e=>rhs;simp only [bD,h0,aW]
  rw [e]
  exact rt (t0++[.d h0,.T]) [] [] hcx (by kernel_rfl)
def yF:Go.Shelf.Ren:=⟨fun | 15=>94 | 28=>117 | 29=>118 | n=>n,fun | 39=>125 | 3=>3 | 53=>140 | 55=>114 | 4=>4 | 5=>5 | 9=>9 | n=>n,fun | n=>n⟩
theorem aQw:Go.Proofs.SlLaysF0.n15 Tryz.prog yF:={
 mixed:=by kernel_rfl
 f15:=Tryz.func94.trans (congrArg some (by kernel_rfl))
 f28:=Tryz.func117.trans (congrArg some (by kernel_rfl))
 f29:=Tryz.func118.trans (congrArg some (by kernel_rfl))
 t3:=Tryz.underlying3
 a3:=Tryz.isAgg3
 z3:=Tryz.sizeOf3
 v3:=Tryz.zeroValue3
 t4:=Tryz.underlying4
 a4:=Tryz.isAgg4
 z4:=Tryz.sizeOf4
 v4:=Tryz.zeroValue4
 t5:=Tryz.underlying5
 a5:=Tryz.isAgg5
 z5:=Tryz.sizeOf5
 v5:=Tryz.zeroValue5
 t9:=Tryz.underlying9
 a9:=Tryz.isAgg9
 z9:=Tryz.sizeOf9
 v9:=Tryz.zeroValue9
 t39:=Tryz.underlying125
 a39:=Tryz.isAgg125
 z39:=Tryz.sizeOf125
 v39:=Tryz.zeroValue125
 t53:=Tryz.underlying140
 a53:=Tryz.isAgg140
 z53:=Tryz.sizeOf140
 v53:=Tryz.zeroValue140
 t55:=Tryz.underlying114
 a55:=Tryz.isAgg114
 z55:=Tryz.sizeOf114
 v55:=Tryz.zeroValue114 }
def F94 (n:Int):Int:=(Lib.bitLen n.toNat:Nat)
theorem C94 (a0:Int)(hn:0<=a0/\a0<=18446744073709551615):Con Tryz.prog 94 [.v (.int .u64 a0)] [] (iv (F94 a0)) []:=by
 refine⟨ent Tryz.func94 (by kernel_rfl) rfl,fun ρ W vs hr hb hpl hap hfz=>?_⟩
 match vs,hr with
 | [],hr=>simp [Rels] at hr
 | _::_::_,hr=>simp [Rels] at hr
 | [v1],hr =>
 simp only [Rels,and_true,Rel] at hr
 subst hr
 have h:=Any.bits_Len (SlLaysF0.n15.bits (ρ:=yF) aQw) a0 W hn.1 hn.2
 refine h.mono fun e w' ⟨he,hw⟩=>?_
 subst hw
 have un1:∀m j,fW m ([]:List BK) [] j=.un:=fun m j=>by unfold fW;simp
 exact⟨ρ,_,he,fun _ _=>rfl,by simp only [iv,Rel];rfl,Kept.refl _ _,fun j=>by rw [un1];trivial,fun j=>by rw [un1];trivial,fun i j b n b' n' _ o1=>by rw [un1] at o1;exact o1.elim,ρ.le_refl,fun b o hb=>⟨(hfz b o hb).1,fun j m o1=>by rw [un1] at o1;exact o1.elim,.inl hb⟩⟩
def eI (a0:Int):Int :=
 (IntKind.wrap .u64 (1*2 ^ (min (tN (F94 (IntKind.wrap .u64 a0))) 64)))
theorem aWj (a0:Int)(hn:0<=a0/\a0<=1048576):Con Tryz.prog 129 [(iv a0)] [] (.v (.int .u64 (eI a0))) []:=by
 refine bA Tryz.func129 (by kernel_rfl) fun cx hcx=>?_
 have e:=Eq.refl (eI a0);conv at e=>rhs;simp only [eI]
 rw [e]
 exact rt [.c [] (C94 (IntKind.wrap .u64 a0)  (by rw [IntKind.wrap_u64];omega)),.p (show 0<=((F94 (IntKind.wrap .u64 a0)):Int) from by first | omega | exact Int.natCast_nonneg _)] [] [] hcx (by kernel_rfl)
def eA (a0:Int):Int×Int :=
 ((IntKind.wrap .u64 ((BitVec.ofInt 64 (IntKind.wrap .u64 ((BitVec.ofInt 64 (IntKind.wrap .u64 ((BitVec.ofInt 64 a0 ^^^ BitVec.ofInt 64 (IntKind.wrap .u64 (a0*2 ^ (min (tN 13) 64)))).toNat:Int)) ^^^ BitVec.ofInt 64 (Int.fdiv (IntKind.wrap .u64 ((BitVec.ofInt 64 a0 ^^^ BitVec.ofInt 64 (IntKind.wrap .u64 (a0*2 ^ (min (tN 13) 64)))).toNat:Int)) (2 ^ (min (tN 7) 64)))).toNat:Int)) ^^^ BitVec.ofInt 64 (IntKind.wrap .u64 ((IntKind.wrap .u64 ((BitVec.ofInt 64 (IntKind.wrap .u64 ((BitVec.ofInt 64 a0 ^^^ BitVec.ofInt 64 (IntKind.wrap .u64 (a0*2 ^ (min (tN 13) 64)))).toNat:Int)) ^^^ BitVec.ofInt 64 (Int.fdiv (IntKind.wrap .u64 ((BitVec.ofInt 64 a0 ^^^ BitVec.ofInt 64 (IntKind.wrap .u64 (a0*2 ^ (min (tN 13) 64)))).toNat:Int)) (2 ^ (min (tN 7) 64)))).toNat:Int))*2 ^ (min (tN 17) 64)))).toNat:Int)),(IntKind.wrap .u64 ((BitVec.ofInt 64 (IntKind.wrap .u64 ((BitVec.ofInt 64 (IntKind.wrap .u64 ((BitVec.ofInt 64 a0 ^^^ BitVec.ofInt 64 (IntKind.wrap .u64 (a0*2 ^ (min (tN 13) 64)))).toNat:Int)) ^^^ BitVec.ofInt 64 (Int.fdiv (IntKind.wrap .u64 ((BitVec.ofInt 64 a0 ^^^ BitVec.ofInt 64 (IntKind.wrap .u64 (a0*2 ^ (min (tN 13) 64)))).toNat:Int)) (2 ^ (min (tN 7) 64)))).toNat:Int)) ^^^ BitVec.ofInt 64 (IntKind.wrap .u64 ((IntKind.wrap .u64 ((BitVec.ofInt 64 (IntKind.wrap .u64 ((BitVec.ofInt 64 a0 ^^^ BitVec.ofInt 64 (IntKind.wrap .u64 (a0*2 ^ (min (tN 13) 64)))).toNat:Int)) ^^^ BitVec.ofInt 64 (Int.fdiv (IntKind.wrap .u64 ((BitVec.ofInt 64 a0 ^^^ BitVec.ofInt 64 (IntKind.wrap .u64 (a0*2 ^ (min (tN 13) 64)))).toNat:Int)) (2 ^ (min (tN 7) 64)))).toNat:Int))*2 ^ (min (tN 17) 64)))).toNat:Int)))
theorem aWk (a0:Int):Con Tryz.prog 130 [(.p 0 0)] [(.live true false [(.v (.int .u64 a0))])] (.v (.int .u64 (eA a0).1)) [] [(.live true false [(.v (.int .u64 (eA a0).2))])]:=by
 refine bA Tryz.func130 (by kernel_rfl) fun cx hcx=>?_
 have e:=Eq.refl (eA a0);conv at e=>rhs;simp only [eA]
 rw [e]
 try dsimp only [aZ]
 try dsimp only
 exact wG [.p (show 0<=(13:Int) from by decide),.p (show 0<=(7:Int) from by decide),.p (show 0<=(17:Int) from by decide)] [] [0] [] hcx (by kernel_rfl)
theorem aN5 {n:Nat} (h:n<=1048576):eI (n:Int)=((1 <<< Go.Sort.bitsLen n:Nat):Int):=by
 unfold eI F94
 have hk:Go.Sort.bitsLen n<=62:=(Go.Sort.bitsLen_le_iff n 62).2 (by omega)
 rw [show IntKind.wrap .u64 (n:Int)=n by rw [IntKind.wrap_u64];omega,fT,fT,bitLen_eq _ (by omega),Nat.min_eq_left (by omega),Int.one_mul]
 exact wrap_two_pow _ hk
theorem aN6 {n:Nat} (h1:1<=n)(h:n<=1048576):1<=1 <<< Go.Sort.bitsLen n/\1 <<< Go.Sort.bitsLen n<=2*n:=by
 have hp:1<=Go.Sort.bitsLen n:=by
  rcases Nat.eq_zero_or_pos (Go.Sort.bitsLen n) with h0 | h0
  ·have:=(Go.Sort.bitsLen_le_iff n 0).1 (by omega);omega
  ·exact h0
 have h2:¬n < 2 ^ (Go.Sort.bitsLen n - 1):=fun h3=>by
  have:=(Go.Sort.bitsLen_le_iff n (Go.Sort.bitsLen n - 1)).2 h3;omega
 rw [Nat.one_shiftLeft]
 obtain⟨k,hk⟩:∃k,Go.Sort.bitsLen n=k+1:=⟨Go.Sort.bitsLen n - 1,by omega⟩
 rw [hk] at h2 ⊢
 rw [show k+1 - 1=k by omega] at h2
 rw [Nat.pow_succ]
 have:1<=2 ^ k:=Nat.one_le_two_pow
 omega
def aMi (x M:Int):Int:=W (IntKind.wrap .u64 ((BitVec.ofInt 64 x &&& BitVec.ofInt 64 (IntKind.wrap .u64 (M - 1))).toNat:Int))
theorem aGt (x:Int) {M:Nat} (h:1<=M/\M<=1099511627776):aMi x (M:Int)=(((BitVec.ofInt 64 x).toNat &&& (M - 1):Nat):Int):=by
 unfold aMi
 have e:(BitVec.ofInt 64 (IntKind.wrap .u64 ((M:Int) - 1))).toNat=M - 1:=by
  rw [IntKind.wrap_u64,BitVec.toNat_ofInt];omega
 have hle:(BitVec.ofInt 64 x).toNat &&& (M - 1)<=M - 1:=Nat.and_le_right
 rw [BitVec.toNat_and,e,show IntKind.wrap .u64 ((((BitVec.ofInt 64 x).toNat &&& (M - 1):Nat)):Int)=(((BitVec.ofInt 64 x).toNat &&& (M - 1):Nat):Int) by rw [IntKind.wrap_u64];omega]
 exact aR (by omega) (by omega)
theorem aN7 (x:Int) {n:Int} (h:1<=n/\n<=1048576):0<=aMi x (eI n)/\aMi x (eI n) < 2*n:=by
 obtain⟨n,rfl⟩:∃k:Nat,n=k:=⟨n.toNat,by omega⟩
 have h2:=aN6 (n:=n) (by omega) (by omega)
 rw [aN5 (by omega),aGt x ⟨h2.1,by omega⟩]
 have hle:(BitVec.ofInt 64 x).toNat &&& (1 <<< Go.Sort.bitsLen n - 1)<=1 <<< Go.Sort.bitsLen n - 1:=Nat.and_le_right
 omega
noncomputable def mI:Code:=(aN [1,1,0,1,1,1] [] (aL Tryz.f111) []).1
noncomputable def mJ:List K:=(aN [1,1,0,1,1,1] [] (aL Tryz.f111) []).2
def lH (a0:List Int)(a0_o:Nat)(a0_n:Nat)(a1:Int)(a2:Int)(a3:eK×Int)(v1c:List SV)(v1n:Nat)(v2 v3:Int):LS:=⟨gO 67 [(0,(.s 0 (0+a0_o*1) a0_n 1)),(1,(iv a1)),(8,(iv (W (a2 - a1)))),(9,(.p 4 0)),(10,(.v (.int .u64 (eI (W (a2 - a1)))))),(11,(iv v2))],[(.live true true v1c),(.live false false [(.s 2 0 a3.1.1.length 10),(iv a3.1.2.1),(.s 0 0 v1n 1),(.s 3 0 a3.1.2.2.2.length 8)]),(.live false true (flat dI a3.1.1)),(.live false true (flat bZ a3.1.2.2.2)),(.live true false [(.v (.int .u64 v3))])]⟩
def eP (a0:List Int)(a0_o:Nat)(a0_n:Nat)(a1:Int)(a2:Int)(a3:eK×Int):List Int×Int×Int->(List Int×Int×Int)⊕(List Int)
 | (v1,v2,v3) =>
  (bif (decide ((v2:Int)<=(W ((W (a1+(W ((W (Int.tdiv (W (a2 - a1)) 4))*2))))+1)))) then
   (bif (decide (((W (IntKind.wrap .u64 ((BitVec.ofInt 64 (eA v3).1 &&& BitVec.ofInt 64 (IntKind.wrap .u64 ((eI (W (a2 - a1))) - 1))).toNat:Int))):Int)≥(W (a2 - a1)))) then
    (.inl (((v1.set (a0_o+tN v2) (v1.getD (a0_o+tN (W (a1+(W ((W (IntKind.wrap .u64 ((BitVec.ofInt 64 (eA v3).1 &&& BitVec.ofInt 64 (IntKind.wrap .u64 ((eI (W (a2 - a1))) - 1))).toNat:Int))) - (W (a2 - a1))))))) dF)).set (a0_o+tN (W (a1+(W ((W (IntKind.wrap .u64 ((BitVec.ofInt 64 (eA v3).1 &&& BitVec.ofInt 64 (IntKind.wrap .u64 ((eI (W (a2 - a1))) - 1))).toNat:Int))) - (W (a2 - a1))))))) (v1.getD (a0_o+tN v2) dF)),(v2+1),(eA v3).2))
   else
    (.inl (((v1.set (a0_o+tN v2) (v1.getD (a0_o+tN (W (a1+(W (IntKind.wrap .u64 ((BitVec.ofInt 64 (eA v3).1 &&& BitVec.ofInt 64 (IntKind.wrap .u64 ((eI (W (a2 - a1))) - 1))).toNat:Int)))))) dF)).set (a0_o+tN (W (a1+(W (IntKind.wrap .u64 ((BitVec.ofInt 64 (eA v3).1 &&& BitVec.ofInt 64 (IntKind.wrap .u64 ((eI (W (a2 - a1))) - 1))).toNat:Int)))))) (v1.getD (a0_o+tN v2) dF)),(v2+1),(eA v3).2)))
  else
   (.inr v1))
theorem aEh (a0:List Int)(a0_o:Nat)(a0_n:Nat)(a1:Int)(a2:Int)(a3:eK×Int)(l0:a0.length<=2^63-1)(l3_1_1:a3.1.1.length<=2^63-1)(l3_1_2_2_1:a3.1.2.2.1.length<=2^63-1)(l3_1_2_2_2:a3.1.2.2.2.length<=2^63-1)(hw:a0_o+a0_n<=a0.length/\a0.length<=1048576)(hr:InR a3.1.1.length a0)(hab:0<=a1/\a1<=a2/\a2<=↑a0_n) {cx:Cx} (hcx:cx.base=4):∀(n:Nat) (v1:List Int) (v2 v3:Int),(v1.length=a0.length)/\(InR a3.1.1.length v1)/\(8<=a2 - a1)/\(a1+(a2 - a1) / 4*2 - 1<=v2)/\(v2<=a1+(a2 - a1) / 4*2+2)->tN (a1+(a2 - a1) / 4*2+2 - v2) < n->Aw.Good Tryz.prog none 9 (bodyPost Tryz.prog Tryz.f111 (RR cx (.t []) [] [(.live true true (flat c3 (aH (eP a0 a0_o a0_n a1 a2 a3) n (v1,v2,v3)))),.un,.un,.un])) cx [] (.l mI n::mJ) (lH a0 a0_o a0_n a1 a2 a3 (flat c3 v1) v1.length v2 v3):=by
 intro n
 induction n with
 | zero=>intro v1 v2 v3 hi hn;exact absurd hn (eL _)
 | succ n ih =>
  intro v1 v2 v3 hi hn
  refine aS ?_
  have hw_0:W (a2 - a1)=a2 - a1:=(aR (n:=a2 - a1) (by omega) (by omega)).trans (by omega)
  have hq4:=aCs (x:=W (a2 - a1)) (by omega)
  have hc_2:(W (a1+(W ((W (Int.tdiv (W (a2 - a1)) 4))*2))))=a1+(a2 - a1) / 4*2:=by rw [hq4,hw_0];exact(aR (by rw [aR (by omega) (by omega)];omega) (by rw [aR (by omega) (by omega)];omega)).trans (by rw [aR (by omega) (by omega)])
  have hc_4:=aR (n:=(W (a1+(W ((W (Int.tdiv (W (a2 - a1)) 4))*2))))+1) (by omega) (by omega)
  have hw_i:=aR (n:=v2+1) (by omega) (by omega)
  have hot:0<=(W (IntKind.wrap .u64 ((BitVec.ofInt 64 (eA v3).1 &&& BitVec.ofInt 64 (IntKind.wrap .u64 ((eI (W (a2 - a1))) - 1))).toNat:Int)))/\(W (IntKind.wrap .u64 ((BitVec.ofInt 64 (eA v3).1 &&& BitVec.ofInt 64 (IntKind.wrap .u64 ((eI (W (a2 - a1))) - 1))).toNat:Int))) < 2*(W (a2 - a1)):=aN7 (eA v3).1 (n:=W (a2 - a1)) (by omega)
  have hwo1:=aR (n:=(W (IntKind.wrap .u64 ((BitVec.ofInt 64 (eA v3).1 &&& BitVec.ofInt 64 (IntKind.wrap .u64 ((eI (W (a2 - a1))) - 1))).toNat:Int))) - (W (a2 - a1))) (by omega) (by omega)
  let t0:List (St Tryz.prog):=[.p (show(4:Int)≠0 from by decide)]
  cases h0:(decide ((v2:Int)<=(W ((W (a1+(W ((W (Int.tdiv (W (a2 - a1)) 4))*2))))+1)))) with
  | true =>
   have q0:=cN h0
   let t1:List (St Tryz.prog):=(t0++[.d h0,.c [4] (aWk v3)])
   cases h1:(decide (((W (IntKind.wrap .u64 ((BitVec.ofInt 64 (eA v3).1 &&& BitVec.ofInt 64 (IntKind.wrap .u64 ((eI (W (a2 - a1))) - 1))).toNat:Int))):Int)≥(W (a2 - a1)))) with
   | true =>
    have q1:=cN h1
    try have hwo2:=(fun _=>aR (n:=a1+(W ((W (IntKind.wrap .u64 ((BitVec.ofInt 64 (eA v3).1 &&& BitVec.ofInt 64 (IntKind.wrap .u64 ((eI (W (a2 - a1))) - 1))).toNat:Int))) - (W (a2 - a1))))) (by omega) (by omega)) h1
    try have hwo3:=(fun _=>aR (n:=a1+(W (IntKind.wrap .u64 ((BitVec.ofInt 64 (eA v3).1 &&& BitVec.ofInt 64 (IntKind.wrap .u64 ((eI (W (a2 - a1))) - 1))).toNat:Int)))) (by omega) (by omega)) h1
    have e:=Eq.refl (eP a0 a0_o a0_n a1 a2 a3 (v1,v2,v3));conv at e=>rhs;simp only [eP,h0,h1,aW]
    rw [aI e]
    refine ba (t1++[.d h1,.i (W (a1+(W ((W (IntKind.wrap .u64 ((BitVec.ofInt 64 (eA v3).1 &&& BitVec.ofInt 64 (IntKind.wrap .u64 ((eI (W (a2 - a1))) - 1))).toNat:Int))) - (W (a2 - a1)))))) a0_n,cM aF v1 a0_o (W (a1+(W ((W (IntKind.wrap .u64 ((BitVec.ofInt 64 (eA v3).1 &&& BitVec.ofInt 64 (IntKind.wrap .u64 ((eI (W (a2 - a1))) - 1))).toNat:Int))) - (W (a2 - a1)))))) 0 1,.i v2 a0_n,cM aF v1 a0_o v2 0 1,.i v2 a0_n,.p (show((0+a0_o*1+tN v2*1)+1<=(flat c3 v1).length) from(aX aF (by first | omega | (simp only [Lt];omega)) (o:=0) (Nb rfl))),.i (W (a1+(W ((W (IntKind.wrap .u64 ((BitVec.ofInt 64 (eA v3).1 &&& BitVec.ofInt 64 (IntKind.wrap .u64 ((eI (W (a2 - a1))) - 1))).toNat:Int))) - (W (a2 - a1)))))) a0_n,.p (show((0+a0_o*1+tN (W (a1+(W ((W (IntKind.wrap .u64 ((BitVec.ofInt 64 (eA v3).1 &&& BitVec.ofInt 64 (IntKind.wrap .u64 ((eI (W (a2 - a1))) - 1))).toNat:Int))) - (W (a2 - a1))))))*1)+1<=(splice (flat c3 v1) (0+a0_o*1+tN v2*1) [(iv (v1.getD (a0_o+tN (W (a1+(W ((W (IntKind.wrap .u64 ((BitVec.ofInt 64 (eA v3).1 &&& BitVec.ofInt 64 (IntKind.wrap .u64 ((eI (W (a2 - a1))) - 1))).toNat:Int))) - (W (a2 - a1))))))) dF))]).length) from(by rw [show(splice (flat c3 v1) (0+a0_o*1+tN v2*1) [(iv (v1.getD (a0_o+tN (W (a1+(W ((W (IntKind.wrap .u64 ((BitVec.ofInt 64 (eA v3).1 &&& BitVec.ofInt 64 (IntKind.wrap .u64 ((eI (W (a2 - a1))) - 1))).toNat:Int))) - (W (a2 - a1))))))) dF))])=flat c3 (v1.set (a0_o+tN v2) (v1.getD (a0_o+tN (W (a1+(W ((W (IntKind.wrap .u64 ((BitVec.ofInt 64 (eA v3).1 &&& BitVec.ofInt 64 (IntKind.wrap .u64 ((eI (W (a2 - a1))) - 1))).toNat:Int))) - (W (a2 - a1))))))) dF)) from(aP aF (by first | omega | (simp only [Lt];omega)) (o:=0) (d:=dF) (Nb rfl) rfl)];exact aX aF (by first | omega | (simp only [Lt];omega)) (o:=0) (Nb rfl)))]) [] [0,1,8,9,10,11] [4] hcx (m:=n) mI (mJ) (lH a0 a0_o a0_n a1 a2 a3 (splice (splice (flat c3 v1) (0+a0_o*1+tN v2*1) [(iv (v1.getD (a0_o+tN (W (a1+(W ((W (IntKind.wrap .u64 ((BitVec.ofInt 64 (eA v3).1 &&& BitVec.ofInt 64 (IntKind.wrap .u64 ((eI (W (a2 - a1))) - 1))).toNat:Int))) - (W (a2 - a1))))))) dF))]) (0+a0_o*1+tN (W (a1+(W ((W (IntKind.wrap .u64 ((BitVec.ofInt 64 (eA v3).1 &&& BitVec.ofInt 64 (IntKind.wrap .u64 ((eI (W (a2 - a1))) - 1))).toNat:Int))) - (W (a2 - a1))))))*1) [(iv (v1.getD (a0_o+tN v2) dF))]) (v1.length) (W (v2+1)) ((eA v3).2)) (by kernel_rfl) ?_
    have z0:(W (v2+1))=(v2+1):=aR (by omega) (by omega)
    have z1:(splice (splice (flat c3 v1) (0+a0_o*1+tN v2*1) [(iv (v1.getD (a0_o+tN (W (a1+(W ((W (IntKind.wrap .u64 ((BitVec.ofInt 64 (eA v3).1 &&& BitVec.ofInt 64 (IntKind.wrap .u64 ((eI (W (a2 - a1))) - 1))).toNat:Int))) - (W (a2 - a1))))))) dF))]) (0+a0_o*1+tN (W (a1+(W ((W (IntKind.wrap .u64 ((BitVec.ofInt 64 (eA v3).1 &&& BitVec.ofInt 64 (IntKind.wrap .u64 ((eI (W (a2 - a1))) - 1))).toNat:Int))) - (W (a2 - a1))))))*1) [(iv (v1.getD (a0_o+tN v2) dF))])=flat c3 ((v1.set (a0_o+tN v2) (v1.getD (a0_o+tN (W (a1+(W ((W (IntKind.wrap .u64 ((BitVec.ofInt 64 (eA v3).1 &&& BitVec.ofInt 64 (IntKind.wrap .u64 ((eI (W (a2 - a1))) - 1))).toNat:Int))) - (W (a2 - a1))))))) dF)).set (a0_o+tN (W (a1+(W ((W (IntKind.wrap .u64 ((BitVec.ofInt 64 (eA v3).1 &&& BitVec.ofInt 64 (IntKind.wrap .u64 ((eI (W (a2 - a1))) - 1))).toNat:Int))) - (W (a2 - a1))))))) (v1.getD (a0_o+tN v2) dF)):=(by rw [show(splice (flat c3 v1) (0+a0_o*1+tN v2*1) [(iv (v1.getD (a0_o+tN (W (a1+(W ((W (IntKind.wrap .u64 ((BitVec.ofInt 64 (eA v3).1 &&& BitVec.ofInt 64 (IntKind.wrap .u64 ((eI (W (a2 - a1))) - 1))).toNat:Int))) - (W (a2 - a1))))))) dF))])=flat c3 (v1.set (a0_o+tN v2) (v1.getD (a0_o+tN (W (a1+(W ((W (IntKind.wrap .u64 ((BitVec.ofInt 64 (eA v3).1 &&& BitVec.ofInt 64 (IntKind.wrap .u64 ((eI (W (a2 - a1))) - 1))).toNat:Int))) - (W (a2 - a1))))))) dF)) from(aP aF (by first | omega | (simp only [Lt];omega)) (o:=0) (d:=dF) (Nb rfl) rfl)];exact aP aF (by first | omega | (simp only [Lt];omega)) (o:=0) (d:=dF) (Nb rfl) rfl)
    have z2:v1.length=((v1.set (a0_o+tN v2) (v1.getD (a0_o+tN (W (a1+(W ((W (IntKind.wrap .u64 ((BitVec.ofInt 64 (eA v3).1 &&& BitVec.ofInt 64 (IntKind.wrap .u64 ((eI (W (a2 - a1))) - 1))).toNat:Int))) - (W (a2 - a1))))))) dF)).set (a0_o+tN (W (a1+(W ((W (IntKind.wrap .u64 ((BitVec.ofInt 64 (eA v3).1 &&& BitVec.ofInt 64 (IntKind.wrap .u64 ((eI (W (a2 - a1))) - 1))).toNat:Int))) - (W (a2 - a1))))))) (v1.getD (a0_o+tN v2) dF)).length:=by simp
    rw [z0,z1,z2]
    exact ih ((v1.set (a0_o+tN v2) (v1.getD (a0_o+tN (W (a1+(W ((W (IntKind.wrap .u64 ((BitVec.ofInt 64 (eA v3).1 &&& BitVec.ofInt 64 (IntKind.wrap .u64 ((eI (W (a2 - a1))) - 1))).toNat:Int))) - (W (a2 - a1))))))) dF)).set (a0_o+tN (W (a1+(W ((W (IntKind.wrap .u64 ((BitVec.ofInt 64 (eA v3).1 &&& BitVec.ofInt 64 (IntKind.wrap .u64 ((eI (W (a2 - a1))) - 1))).toNat:Int))) - (W (a2 - a1))))))) (v1.getD (a0_o+tN v2) dF)) (v2+1) ((eA v3).2) (by and_intros<;>(try simp only [Lt])<;>first | omega | assumption | exact hi.2.1 | exact hi.2.2.1 | exact InR.swap hi.2.1 (by omega) (by omega) | exact InR.swap hr (by omega) (by omega)) (by omega)
   | false =>
    have q1:=cY h1
    try have hwo2:=(fun _=>aR (n:=a1+(W ((W (IntKind.wrap .u64 ((BitVec.ofInt 64 (eA v3).1 &&& BitVec.ofInt 64 (IntKind.wrap .u64 ((eI (W (a2 - a1))) - 1))).toNat:Int))) - (W (a2 - a1))))) (by omega) (by omega)) h1
    try have hwo3:=(fun _=>aR (n:=a1+(W (IntKind.wrap .u64 ((BitVec.ofInt 64 (eA v3).1 &&& BitVec.ofInt 64 (IntKind.wrap .u64 ((eI (W (a2 - a1))) - 1))).toNat:Int)))) (by omega) (by omega)) h1
    have e:=Eq.refl (eP a0 a0_o a0_n a1 a2 a3 (v1,v2,v3));conv at e=>rhs;simp only [eP,h0,h1,aW]
    rw [aI e]
    refine ba (t1++[.d h1,.i (W (a1+(W (IntKind.wrap .u64 ((BitVec.ofInt 64 (eA v3).1 &&& BitVec.ofInt 64 (IntKind.wrap .u64 ((eI (W (a2 - a1))) - 1))).toNat:Int))))) a0_n,cM aF v1 a0_o (W (a1+(W (IntKind.wrap .u64 ((BitVec.ofInt 64 (eA v3).1 &&& BitVec.ofInt 64 (IntKind.wrap .u64 ((eI (W (a2 - a1))) - 1))).toNat:Int))))) 0 1,.i v2 a0_n,cM aF v1 a0_o v2 0 1,.i v2 a0_n,.p (show((0+a0_o*1+tN v2*1)+1<=(flat c3 v1).length) from(aX aF (by first | omega | (simp only [Lt];omega)) (o:=0) (Nb rfl))),.i (W (a1+(W (IntKind.wrap .u64 ((BitVec.ofInt 64 (eA v3).1 &&& BitVec.ofInt 64 (IntKind.wrap .u64 ((eI (W (a2 - a1))) - 1))).toNat:Int))))) a0_n,.p (show((0+a0_o*1+tN (W (a1+(W (IntKind.wrap .u64 ((BitVec.ofInt 64 (eA v3).1 &&& BitVec.ofInt 64 (IntKind.wrap .u64 ((eI (W (a2 - a1))) - 1))).toNat:Int)))))*1)+1<=(splice (flat c3 v1) (0+a0_o*1+tN v2*1) [(iv (v1.getD (a0_o+tN (W (a1+(W (IntKind.wrap .u64 ((BitVec.ofInt 64 (eA v3).1 &&& BitVec.ofInt 64 (IntKind.wrap .u64 ((eI (W (a2 - a1))) - 1))).toNat:Int)))))) dF))]).length) from(by rw [show(splice (flat c3 v1) (0+a0_o*1+tN v2*1) [(iv (v1.getD (a0_o+tN (W (a1+(W (IntKind.wrap .u64 ((BitVec.ofInt 64 (eA v3).1 &&& BitVec.ofInt 64 (IntKind.wrap .u64 ((eI (W (a2 - a1))) - 1))).toNat:Int)))))) dF))])=flat c3 (v1.set (a0_o+tN v2) (v1.getD (a0_o+tN (W (a1+(W (IntKind.wrap .u64 ((BitVec.ofInt 64 (eA v3).1 &&& BitVec.ofInt 64 (IntKind.wrap .u64 ((eI (W (a2 - a1))) - 1))).toNat:Int)))))) dF)) from(aP aF (by first | omega | (simp only [Lt];omega)) (o:=0) (d:=dF) (Nb rfl) rfl)];exact aX aF (by first | omega | (simp only [Lt];omega)) (o:=0) (Nb rfl)))]) [] [0,1,8,9,10,11] [4] hcx (m:=n) mI (mJ) (lH a0 a0_o a0_n a1 a2 a3 (splice (splice (flat c3 v1) (0+a0_o*1+tN v2*1) [(iv (v1.getD (a0_o+tN (W (a1+(W (IntKind.wrap .u64 ((BitVec.ofInt 64 (eA v3).1 &&& BitVec.ofInt 64 (IntKind.wrap .u64 ((eI (W (a2 - a1))) - 1))).toNat:Int)))))) dF))]) (0+a0_o*1+tN (W (a1+(W (IntKind.wrap .u64 ((BitVec.ofInt 64 (eA v3).1 &&& BitVec.ofInt 64 (IntKind.wrap .u64 ((eI (W (a2 - a1))) - 1))).toNat:Int)))))*1) [(iv (v1.getD (a0_o+tN v2) dF))]) (v1.length) (W (v2+1)) ((eA v3).2)) (by kernel_rfl) ?_
    have z0:(W (v2+1))=(v2+1):=aR (by omega) (by omega)
    have z1:(splice (splice (flat c3 v1) (0+a0_o*1+tN v2*1) [(iv (v1.getD (a0_o+tN (W (a1+(W (IntKind.wrap .u64 ((BitVec.ofInt 64 (eA v3).1 &&& BitVec.ofInt 64 (IntKind.wrap .u64 ((eI (W (a2 - a1))) - 1))).toNat:Int)))))) dF))]) (0+a0_o*1+tN (W (a1+(W (IntKind.wrap .u64 ((BitVec.ofInt 64 (eA v3).1 &&& BitVec.ofInt 64 (IntKind.wrap .u64 ((eI (W (a2 - a1))) - 1))).toNat:Int)))))*1) [(iv (v1.getD (a0_o+tN v2) dF))])=flat c3 ((v1.set (a0_o+tN v2) (v1.getD (a0_o+tN (W (a1+(W (IntKind.wrap .u64 ((BitVec.ofInt 64 (eA v3).1 &&& BitVec.ofInt 64 (IntKind.wrap .u64 ((eI (W (a2 - a1))) - 1))).toNat:Int)))))) dF)).set (a0_o+tN (W (a1+(W (IntKind.wrap .u64 ((BitVec.ofInt 64 (eA v3).1 &&& BitVec.ofInt 64 (IntKind.wrap .u64 ((eI (W (a2 - a1))) - 1))).toNat:Int)))))) (v1.getD (a0_o+tN v2) dF)):=(by rw [show(splice (flat c3 v1) (0+a0_o*1+tN v2*1) [(iv (v1.getD (a0_o+tN (W (a1+(W (IntKind.wrap .u64 ((BitVec.ofInt 64 (eA v3).1 &&& BitVec.ofInt 64 (IntKind.wrap .u64 ((eI (W (a2 - a1))) - 1))).toNat:Int)))))) dF))])=flat c3 (v1.set (a0_o+tN v2) (v1.getD (a0_o+tN (W (a1+(W (IntKind.wrap .u64 ((BitVec.ofInt 64 (eA v3).1 &&& BitVec.ofInt 64 (IntKind.wrap .u64 ((eI (W (a2 - a1))) - 1))).toNat:Int)))))) dF)) from(aP aF (by first | omega | (simp only [Lt];omega)) (o:=0) (d:=dF) (Nb rfl) rfl)];exact aP aF (by first | omega | (simp only [Lt];omega)) (o:=0) (d:=dF) (Nb rfl) rfl)
    have z2:v1.length=((v1.set (a0_o+tN v2) (v1.getD (a0_o+tN (W (a1+(W (IntKind.wrap .u64 ((BitVec.ofInt 64 (eA v3).1 &&& BitVec.ofInt 64 (IntKind.wrap .u64 ((eI (W (a2 - a1))) - 1))).toNat:Int)))))) dF)).set (a0_o+tN (W (a1+(W (IntKind.wrap .u64 ((BitVec.ofInt 64 (eA v3).1 &&& BitVec.ofInt 64 (IntKind.wrap .u64 ((eI (W (a2 - a1))) - 1))).toNat:Int)))))) (v1.getD (a0_o+tN v2) dF)).length:=by simp
    rw [z0,z1,z2]
    exact ih ((v1.set (a0_o+tN v2) (v1.getD (a0_o+tN (W (a1+(W (IntKind.wrap .u64 ((BitVec.ofInt 64 (eA v3).1 &&& BitVec.ofInt 64 (IntKind.wrap .u64 ((eI (W (a2 - a1))) - 1))).toNat:Int)))))) dF)).set (a0_o+tN (W (a1+(W (IntKind.wrap .u64 ((BitVec.ofInt 64 (eA v3).1 &&& BitVec.ofInt 64 (IntKind.wrap .u64 ((eI (W (a2 - a1))) - 1))).toNat:Int)))))) (v1.getD (a0_o+tN v2) dF)) (v2+1) ((eA v3).2) (by and_intros<;>(try simp only [Lt])<;>first | omega | assumption | exact hi.2.1 | exact hi.2.2.1 | exact InR.swap hi.2.1 (by omega) (by omega) | exact InR.swap hr (by omega) (by omega)) (by omega)
  | false =>
   have q0:=cY h0
   have e:=Eq.refl (eP a0 a0_o a0_n a1 a2 a3 (v1,v2,v3));conv at e=>rhs;simp only [eP,h0,aW]
   rw [aK,e]
   try dsimp only [aZ]
   try dsimp only
   exact rtn (t0++[.d h0]) [] [0] [] hcx (by kernel_rfl)
def eQ (a0:List Int)(a0_o:Nat)(a0_n:Nat)(a1:Int)(a2:Int)(a3:eK×Int):List Int :=
 (bif (decide (((W (a2 - a1)):Int)≥8)) then
  (aH (eP a0 a0_o a0_n a1 a2 a3) (tN (a1+(a2 - a1) / 4*2+2 - (W ((W (a1+(W ((W (Int.tdiv (W (a2 - a1)) 4))*2)))) - 1)))+1) (a0,(W ((W (a1+(W ((W (Int.tdiv (W (a2 - a1)) 4))*2)))) - 1)),(IntKind.wrap .u64 (W (a2 - a1)))))
 else
  a0)
theorem aIt (a0:List Int)(a0_o:Nat)(a0_n:Nat)(a1:Int)(a2:Int)(a3:eK×Int)(l0:a0.length<=2^63-1)(l3_1_1:a3.1.1.length<=2^63-1)(l3_1_2_2_1:a3.1.2.2.1.length<=2^63-1)(l3_1_2_2_2:a3.1.2.2.2.length<=2^63-1)(hw:a0_o+a0_n<=a0.length/\a0.length<=1048576)(hr:InR a3.1.1.length a0)(hab:0<=a1/\a1<=a2/\a2<=↑a0_n):Con Tryz.prog 111 [(.s 0 (0+a0_o*1) a0_n 1),(iv a1),(iv a2),(.f 1000075 [(.a [(.p 1 0),(iv a3.2)])])] [(.live true true (flat c3 a0)),(.live false false [(.s 2 0 a3.1.1.length 10),(iv a3.1.2.1),(.s 0 0 a0.length 1),(.s 3 0 a3.1.2.2.2.length 8)]),(.live false true (flat dI a3.1.1)),(.live false true (flat bZ a3.1.2.2.2))] (.t []) [] [(.live true true (flat c3 (eQ a0 a0_o a0_n a1 a2 a3))),.un,.un,.un]:=by
 refine bA Tryz.func111 (by kernel_rfl) fun cx hcx=>?_
 have hw_0:W (a2 - a1)=a2 - a1:=(aR (n:=a2 - a1) (by omega) (by omega)).trans (by omega)
 have hq4:=aCs (x:=W (a2 - a1)) (by omega)
 have hc_2:(W (a1+(W ((W (Int.tdiv (W (a2 - a1)) 4))*2))))=a1+(a2 - a1) / 4*2:=by rw [hq4,hw_0];exact(aR (by rw [aR (by omega) (by omega)];omega) (by rw [aR (by omega) (by omega)];omega)).trans (by rw [aR (by omega) (by omega)])
 have hc_3:=aR (n:=(W (a1+(W ((W (Int.tdiv (W (a2 - a1)) 4))*2)))) - 1) (by omega) (by omega)
 cases h0:(decide (((W (a2 - a1)):Int)≥8)) with
 | true =>
  have q0:=cN h0
  have e:=Eq.refl (eQ a0 a0_o a0_n a1 a2 a3);conv at e=>rhs;simp only [eQ,h0,aW]
  rw [e]
  refine en [.d h0,.c [] (aWj (W (a2 - a1))  (by omega)),.p (show(4:Int)≠0 from by decide)] [] [0,1,8,9,10,11] [4] hcx mI (mJ) (lH a0 a0_o a0_n a1 a2 a3 (flat c3 a0) (a0.length) (W ((W (a1+(W ((W (Int.tdiv (W (a2 - a1)) 4))*2)))) - 1)) (IntKind.wrap .u64 (W (a2 - a1)))) (tN (a1+(a2 - a1) / 4*2+2 - (W ((W (a1+(W ((W (Int.tdiv (W (a2 - a1)) 4))*2)))) - 1)))+1) (by kernel_rfl) ?_
  exact aEh a0 a0_o a0_n a1 a2 a3 l0 l3_1_1 l3_1_2_2_1 l3_1_2_2_2 hw hr hab hcx (tN (a1+(a2 - a1) / 4*2+2 - (W ((W (a1+(W ((W (Int.tdiv (W (a2 - a1)) 4))*2)))) - 1)))+1) a0 (W ((W (a1+(W ((W (Int.tdiv (W (a2 - a1)) 4))*2)))) - 1)) (IntKind.wrap .u64 (W (a2 - a1))) (by and_intros<;>(try simp only [Lt])<;>first | omega | assumption | exact hi.2.1 | exact hi.2.2.1 | exact InR.swap hi.2.1 (by omega) (by omega) | exact InR.swap hr (by omega) (by omega)) (by omega)
 | false =>
  have q0:=cY h0
  have e:=Eq.refl (eQ a0 a0_o a0_n a1 a2 a3);conv at e=>rhs;simp only [eQ,h0,aW]
  rw [e]
  try dsimp only [aZ]
  try dsimp only
  exact rtn [.d h0] [] [0] [] hcx (by kernel_rfl)
section
variable {o n : Nat} {l l0 : List Int} {c : qT}
theorem oH (lt:Int->Int->Bool)(a:Nat):∀(j:Nat) (d:Array Int),(Go.Sort.insInner lt a j d).size=d.size
 | 0,d=>rfl
 | j+1,d=>by
  rw [Go.Sort.insInner]
  split
  ·rw [oH lt a j,rL]
  ·rfl
theorem aKq (hl:o+n<=l.length)(hn:n<=1048576) {a:Nat} {a2:Int}:∀(m:Nat) (d:Array Int) (j:Nat) (w:Int),d.size=n->j < n->j - a < m ->
 aH (dE l0 o n (a:Int) a2 c) m (wp l o d,w,(j:Int))=.inl (wp l o (Go.Sort.insInner (bK c) a j d),w+1)
 | 0,_,_,_,_,_,h=>absurd h (eL _)
 | m+1,d,0,w,hd,hj,hm=>by
  refine aQ ?_
  simp only [dE]
  rw [dA (by omega),cond_false];rfl
 | m+1,d,j+1,w,hd,hj,hm=>by
  have hl':o+d.size<=l.length:=by omega
  have e1:W (((j+1:Nat):Int) - 1)=((j:Nat):Int):=wN (by omega) (by omega)
  rw [Go.Sort.insInner]
  by_cases h1:j+1 > a
  ·have e:dE l0 o n (a:Int) a2 c (wp l o d,w,((j+1:Nat):Int))=bif bK c d[j+1]! d[j]! then .inl (wp l o (Go.Sort.swp d (j+1) j),w,(j:Int)) else .inr (.inl (wp l o d,w+1)):=by
    simp only [dE,e1,fT,aKo,aKp]
    rw [cI (by omega),cond_true,gK hl' (i:=j+1) (j:=j) (by omega) (by omega),cU hl' (i:=j+1) (by omega),cU hl' (i:=j) (by omega)]
   rw [cI h1,Bool.true_and]
   cases q:bK c d[j+1]! d[j]! with
   | true =>
    rw [q,cond_true] at e
    rw [aI e]
    exact aKq hl hn m _ j w (by rw [rL];exact hd) (by omega) (by omega)
   | false=>rw [q,cond_false] at e;exact aQ e
  ·rw [dA h1,Bool.false_and]
   refine aQ ?_
   simp only [dE]
   rw [dA (by omega),cond_false];rfl
theorem aKr (hl:o+n<=l.length)(hn:n<=1048576) {a b:Nat} (hb:b<=n):∀(m:Nat) (d:Array Int) (i:Nat),d.size=n->b - i < m ->
 aH (dZ l0 o n (a:Int) (b:Int) c) m (wp l o d,(i:Int))=wp l o (Go.Sort.insOuter (bK c) a b i d)
 | 0,_,_,_,h=>absurd h (eL _)
 | m+1,d,i,hd,hm=>by
  rw [Go.Sort.insOuter]
  by_cases h1:i < b
  ·rw [if_pos h1]
   have e:dZ l0 o n (a:Int) (b:Int) c (wp l o d,(i:Int))=aH (dE l0 o n (a:Int) (b:Int) c) (tN ((i:Int) - a)+1) (wp l o d,(i:Int),(i:Int)):=by
    simp only [dZ];rw [cI (by omega),cond_true]
   rw [aI (e.trans (aKq hl hn _ d i _ hd (by omega) (by omega)))]
   exact aKr hl hn hb m _ (i+1) (by rw [oH];exact hd) (by omega)
  ·rw [if_neg h1]
   refine aQ ?_
   simp only [dZ];rw [dA (by omega),cond_false]
theorem aN8 {d:Array Int} (hl:o+n<=l.length)(hn:n<=1048576) {a b:Nat} (hb:b<=n)(ha:a<=n)(hd:d.size=n):gY (wp l o d) o n (a:Int) (b:Int) c=wp l o (Go.Sort.insertionSort (bK c) d a b):=by
 unfold gY
 rw [wN (n:=a+1) (by omega) (by omega)]
 exact aKr hl hn hb _ d (a+1) hd (by omega)
theorem aSl (hl:o+n<=l.length)(hn:n<=1048576) {a1 a2:Int}:∀(m:Nat) (d:Array Int) (i j:Nat),d.size=n->i<=n->j < n->j - i < m ->
 aH (fA l0 o n a1 a2 c) m (wp l o d,(i:Int),(j:Int))=wp l o (Go.Sort.reverseLoop i j d)
 | 0,_,_,_,_,_,_,h=>absurd h (eL _)
 | m+1,d,i,j,hd,hi,hj,hm=>by
  have hl':o+d.size<=l.length:=by omega
  rw [Go.Sort.reverseLoop]
  by_cases h1:i < j
  ·rw [if_pos h1]
   have e:fA l0 o n a1 a2 c (wp l o d,(i:Int),(j:Int))=.inl (wp l o (Go.Sort.swp d i j),((i+1:Nat):Int),((j - 1:Nat):Int)):=by
    simp only [fA,fT]
    rw [cI (by omega),cond_true,gK hl' (i:=i) (j:=j) (by omega) (by omega),wN (x:=(j:Int) - 1) (n:=j - 1) (by omega) (by omega)]
    rfl
   rw [aI e]
   exact aSl hl hn m _ (i+1) (j - 1) (by rw [rL];exact hd) (by omega) (by omega) (by omega)
  ·rw [if_neg h1]
   refine aQ ?_
   simp only [fA];rw [dA (by omega),cond_false]
theorem aN9 {d:Array Int} (hl:o+n<=l.length)(hn:n<=1048576) {a b:Nat} (hab:a < b)(hb:b<=n)(hd:d.size=n):eY (wp l o d) o n (a:Int) (b:Int) c=wp l o (Go.Sort.reverseRange d a b):=by
 unfold eY
 rw [wN (x:=(b:Int) - 1) (n:=b - 1) (by omega) (by omega)]
 exact aSl hl hn _ d a (b - 1) hd (by omega) (by omega) (by omega)
theorem aOa (hl:o+n<=l.length)(hn:n<=1048576) {a:Nat} {a2:Int}:∀(k m:Nat) (d:Array Int),d.size=n->a+k<=n->k < m ->
 aH (fB l0 o n (a:Int) a2 c) m (wp l o d,(k:Int) - 1)=wp l o (Go.Sort.heapPop (bK c) a k d)/\(Go.Sort.heapPop (bK c) a k d).size=n
 | 0,m+1,d,hd,_,_=>by
  refine⟨aQ ?_,hd⟩
  simp only [fB]
  rw [dA (by omega),cond_false];rfl
 | k+1,m+1,d,hd,hk,hm=>by
  have hl':o+d.size<=l.length:=by omega
  have hs:=aSj (c:=((c.1.1,c.1.2.1,(wp l o (Go.Sort.swp d a (a+k)),c.1.2.2.2)),c.2)) (l:=l) (d:=Go.Sort.swp d a (a+k)) (hi:=k) (first:=a) (lo:=0) hl hn (by omega) (by omega) (by rw [rL];exact hd)
  have e:fB l0 o n (a:Int) a2 c (wp l o d,((k+1:Nat):Int) - 1)=.inl (wp l o (Go.Sort.siftDown (bK c) k a 0 (Go.Sort.swp d a (a+k))),(k:Int) - 1):=by
   rw [show((k+1:Nat):Int) - 1=(k:Int) by omega]
   simp only [fB,fT,wN (x:=(a:Int)+(k:Int)) (n:=a+k) (by omega) (by omega)]
   rw [cI (by omega),cond_true,gK hl' (i:=a) (j:=a+k) (by omega) (by omega),aR (n:=(k:Int) - 1) (by omega) (by omega)]
   exact congrArg (fun z=>Sum.inl (z,(k:Int) - 1)) hs.1
  rw [aI e]
  exact aOa hl hn k m _ hs.2 (by omega) (by omega)
theorem aOb (hl:o+n<=l.length)(hn:n<=1048576) {a b:Nat} (hab:a<=b)(hb:b<=n):∀(k m:Nat) (d:Array Int),d.size=n->k<=1048576->k < m ->
 aH (fC l0 o n (a:Int) (b:Int) c) m (wp l o d,(k:Int) - 1)=wp l o (Go.Sort.heapPop (bK c) a (b - a) (Go.Sort.heapBuild (bK c) (b - a) a k d))/\(Go.Sort.heapPop (bK c) a (b - a) (Go.Sort.heapBuild (bK c) (b - a) a k d)).size=n
 | 0,m+1,d,hd,_,_=>by
  have e2:W ((W ((b:Int) - (a:Int))) - 1)=((b - a:Nat):Int) - 1:=by rw [wN (x:=(b:Int) - (a:Int)) (n:=b - a) (by omega) (by omega)];exact aR (by omega) (by omega)
  have h1:=aOa (l:=l) (l0:=l0) (c:=c) (a:=a) (a2:=(b:Int)) hl hn (b - a) (tN (((b - a:Nat):Int) - 1+1)+1) d hd (by omega) (by omega)
  refine⟨aQ ?_,h1.2⟩
  simp only [fC,e2]
  rw [dA (by omega),cond_false,h1.1];rfl
 | k+1,m+1,d,hd,hk,hm=>by
  have hs:=aSj (c:=((c.1.1,c.1.2.1,(wp l o d,c.1.2.2.2)),c.2)) (l:=l) (d:=d) (hi:=b - a) (first:=a) (lo:=k) hl hn (by omega) (by omega) hd
  have e:fC l0 o n (a:Int) (b:Int) c (wp l o d,((k+1:Nat):Int) - 1)=.inl (wp l o (Go.Sort.siftDown (bK c) (b - a) a k d),(k:Int) - 1):=by
   rw [show((k+1:Nat):Int) - 1=(k:Int) by omega]
   simp only [fC,wN (x:=(b:Int) - (a:Int)) (n:=b - a) (by omega) (by omega)]
   rw [cI (by omega),cond_true,aR (n:=(k:Int) - 1) (by omega) (by omega)]
   exact congrArg (fun z=>Sum.inl (z,(k:Int) - 1)) hs.1
  rw [aI e]
  exact aOb hl hn hab hb k m _ hs.2 (by omega) (by omega)
theorem aOc {d:Array Int} (hl:o+n<=l.length)(hn:n<=1048576) {a b:Nat} (hab:a<=b)(hb:b<=n)(hd:d.size=n):hH (wp l o d) o n (a:Int) (b:Int) c=wp l o (Go.Sort.heapSort (bK c) d a b):=by
 unfold hH
 have hm:W (Int.tdiv (W ((W ((b:Int) - (a:Int))) - 1)) 2)=(((b - a - 1) / 2+1:Nat):Int) - 1:=by
  rw [wN (x:=(b:Int) - (a:Int)) (n:=b - a) (by omega) (by omega)]
  rcases aN3 (n:=((b - a:Nat):Int)) (by omega) with h | ⟨h,h2⟩
  ·by_cases h0:b - a=0
   ·rw [h0];decide
   ·rw [h];omega
  ·rw [h2];omega
 rw [hm]
 exact(aOb (l:=l) hl hn hab hb ((b - a - 1) / 2+1) _ d hd (by omega) (by omega)).1
end
end Go.Proofs.YtkdfcbmcgnaicaaGreat
namespace Go.Proofs.YtkdfcbmcgnaicaaGreat
open Go.Proofs Go.Aw Go.RowKit
set_option maxRecDepth 100000
section
open Go.Sort
variable {o n : Nat} {l l0 : List Int} {c : qT} {a3 b : Int} {a : Nat} {d : Array Int}
theorem gQ (c:qT)(v:List Int)(x y:Int):decide (oY ((c.1.1,c.1.2.1,(v,c.1.2.2.2)),c.2) x y < 0)=bK c x y:=rfl
theorem oI (p:Int->Bool)(d:Array Int)(i j:Nat)(h:1<=j):scanDown p d i j=if i<=j&&p d[j]! then scanDown p d i (j - 1) else j:=by
 obtain⟨j,rfl⟩:∃k,j=k+1:=⟨j - 1,by omega⟩
 rw [scanDown];rfl
theorem aKs (hl:o+n<=l.length)(hn:n<=1048576)(hd:d.size=n)(ha:a < n) {j:Nat} (hj:j < n):∀(m i:Nat),i<=1048577->j+2 - i < m ->
 aH (dG l0 o n (a:Int) b a3 c) m (wp l o d,(i:Int),(j:Int))=(aH (bS l0 o n (a:Int) b a3 c) (tN ((j:Int)+2 - (scanUp (fun x=>bK c x d[a]!) d j i:Nat))+1) (wp l o d,((scanUp (fun x=>bK c x d[a]!) d j i:Nat):Int),(j:Int)))
 | 0,_,_,h=>absurd h (eL _)
 | m+1,i,hi,hm=>by
  have hl':o+d.size<=l.length:=by omega
  rw [scanUp]
  by_cases h1:i<=j
  ·rw [cI h1,Bool.true_and]
   have e:dG l0 o n (a:Int) b a3 c (wp l o d,(i:Int),(j:Int))=bif (bK c d[i]! d[a]!) then .inl (wp l o d,((i+1:Nat):Int),(j:Int)) else .inr (aH (bS l0 o n (a:Int) b a3 c) (tN ((j:Int)+2 - (i:Int))+1) (wp l o d,(i:Int),(j:Int))):=by
    simp only [dG,fT,gQ]
    rw [cI (show(i:Int)<=(j:Int) by omega),cond_true,cU hl' (i:=i) (by omega),cU hl' (i:=a) (by omega)]
    rfl
   cases q:bK c d[i]! d[a]! with
   | true =>
    rw [q] at e
    rw [aI (e.trans (by rfl)),if_pos (show(true)=true from rfl)]
    exact aKs hl hn hd ha hj m (i+1) (by omega) (by omega)
   | false =>
    rw [q] at e
    rw [if_neg (show ¬(false)=true from by decide)]
    exact aQ (e.trans (by rfl))
  ·rw [dA h1,Bool.false_and,if_neg Bool.false_ne_true]
   refine aQ ?_
   simp only [dG]
   rw [dA (show ¬(i:Int)<=(j:Int) by omega),cond_false]
theorem aKt (hl:o+n<=l.length)(hn:n<=1048576)(hd:d.size=n)(ha:a < n) {i:Nat} (hi:1<=i/\i<=n+1):∀(m j:Nat),j < n->i<=j+2->j+2 - i < m ->
 aH (bS l0 o n (a:Int) b a3 c) m (wp l o d,(i:Int),(j:Int))=(if i > scanDown (fun x=>!bK c x d[a]!) d i j then(((scanDown (fun x=>!bK c x d[a]!) d i j:Nat):Int),true,wp l o (swp d (scanDown (fun x=>!bK c x d[a]!) d i j) a)) else aH (bR l0 o n (a:Int) b a3 c) (tN (((scanDown (fun x=>!bK c x d[a]!) d i j - 1:Nat):Int)+2 - ((i+1:Nat):Int))+1) (wp l o (swp d i (scanDown (fun x=>!bK c x d[a]!) d i j)),((i+1:Nat):Int),((scanDown (fun x=>!bK c x d[a]!) d i j - 1:Nat):Int)))
 | 0,_,_,_,h=>absurd h (eL _)
 | m+1,j,hj,hij,hm=>by
  have hl':o+d.size<=l.length:=by omega
  by_cases h1:i<=j
  ·rw [oI _ _ _ _ (by omega),cI h1,Bool.true_and]
   have e1:W ((j:Int) - 1)=((j - 1:Nat):Int):=wN (by omega) (by omega)
   have e2:W ((i:Int)+1)=((i+1:Nat):Int):=wN (by omega) (by omega)
   cases q:bK c d[j]! d[a]! with
   | false =>
    rw [if_pos (show(!false)=true from rfl)]
    have e:bS l0 o n (a:Int) b a3 c (wp l o d,(i:Int),(j:Int))=.inl (wp l o d,(i:Int),((j - 1:Nat):Int)):=by
     simp only [bS,fT,gQ,e1]
     rw [cI (show(i:Int)<=(j:Int) by omega),cond_true,cU hl' (i:=j) (by omega),cU hl' (i:=a) (by omega)]
     rw [q];rfl
    rw [aI e]
    exact aKt hl hn hd ha hi m (j - 1) (by omega) (by omega) (by omega)
   | true =>
    rw [if_neg (show ¬(!true)=true from by decide),if_neg (by omega)]
    refine aQ ?_
    simp only [bS,fT,gQ,e1,e2]
    rw [cI (show(i:Int)<=(j:Int) by omega),cond_true,gK hl' (i:=i) (j:=j) (by omega) (by omega),gK hl' (i:=j) (j:=a) (by omega) (by omega),cU hl' (i:=j) (by omega),cU hl' (i:=a) (by omega),dA (show ¬(i:Int) > (j:Int) by omega),cond_false,q]
    rfl
  ·have hsd:scanDown (fun x=>!bK c x d[a]!) d i j=j:=by
    cases j with
    | zero=>rfl
    | succ j=>rw [scanDown,dA h1];rfl
   rw [hsd,if_pos (by omega)]
   refine aQ ?_
   simp only [bS,fT]
   rw [dA (show ¬(i:Int)<=(j:Int) by omega),cond_false,cI (show(i:Int) > (j:Int) by omega),cond_true,gK hl' (i:=j) (j:=a) (by omega) (by omega)]
theorem aKu (hl:o+n<=l.length)(hn:n<=1048576)(hd:d.size=n)(ha:a < n) {j:Nat} (hj:j < n):∀(m i:Nat),i<=1048577->j+2 - i < m ->
 aH (cP l0 o n (a:Int) b a3 c) m (wp l o d,(i:Int),(j:Int))=(aH (bQ l0 o n (a:Int) b a3 c) (tN ((j:Int)+2 - (scanUp (fun x=>bK c x d[a]!) d j i:Nat))+1) (wp l o d,((scanUp (fun x=>bK c x d[a]!) d j i:Nat):Int),(j:Int)))
 | 0,_,_,h=>absurd h (eL _)
 | m+1,i,hi,hm=>by
  have hl':o+d.size<=l.length:=by omega
  rw [scanUp]
  by_cases h1:i<=j
  ·rw [cI h1,Bool.true_and]
   have e:cP l0 o n (a:Int) b a3 c (wp l o d,(i:Int),(j:Int))=bif (bK c d[i]! d[a]!) then .inl (wp l o d,((i+1:Nat):Int),(j:Int)) else .inr (aH (bQ l0 o n (a:Int) b a3 c) (tN ((j:Int)+2 - (i:Int))+1) (wp l o d,(i:Int),(j:Int))):=by
    simp only [cP,fT,gQ]
    rw [cI (show(i:Int)<=(j:Int) by omega),cond_true,cU hl' (i:=i) (by omega),cU hl' (i:=a) (by omega)]
    rfl
   cases q:bK c d[i]! d[a]! with
   | true =>
    rw [q] at e
    rw [aI (e.trans (by rfl)),if_pos (show(true)=true from rfl)]
    exact aKu hl hn hd ha hj m (i+1) (by omega) (by omega)
   | false =>
    rw [q] at e
    rw [if_neg (show ¬(false)=true from by decide)]
    exact aQ (e.trans (by rfl))
  ·rw [dA h1,Bool.false_and,if_neg Bool.false_ne_true]
   refine aQ ?_
   simp only [cP]
   rw [dA (show ¬(i:Int)<=(j:Int) by omega),cond_false]
theorem aKv (hl:o+n<=l.length)(hn:n<=1048576)(hd:d.size=n)(ha:a < n) {i:Nat} (hi:1<=i/\i<=n+1):∀(m j:Nat),j < n->i<=j+2->j+2 - i < m ->
 aH (bQ l0 o n (a:Int) b a3 c) m (wp l o d,(i:Int),(j:Int))=(if i > scanDown (fun x=>!bK c x d[a]!) d i j then .inr (((scanDown (fun x=>!bK c x d[a]!) d i j:Nat):Int),false,wp l o (swp d (scanDown (fun x=>!bK c x d[a]!) d i j) a)) else .inl (wp l o (swp d i (scanDown (fun x=>!bK c x d[a]!) d i j)),((i+1:Nat):Int),((scanDown (fun x=>!bK c x d[a]!) d i j - 1:Nat):Int)))
 | 0,_,_,_,h=>absurd h (eL _)
 | m+1,j,hj,hij,hm=>by
  have hl':o+d.size<=l.length:=by omega
  by_cases h1:i<=j
  ·rw [oI _ _ _ _ (by omega),cI h1,Bool.true_and]
   have e1:W ((j:Int) - 1)=((j - 1:Nat):Int):=wN (by omega) (by omega)
   have e2:W ((i:Int)+1)=((i+1:Nat):Int):=wN (by omega) (by omega)
   cases q:bK c d[j]! d[a]! with
   | false =>
    rw [if_pos (show(!false)=true from rfl)]
    have e:bQ l0 o n (a:Int) b a3 c (wp l o d,(i:Int),(j:Int))=.inl (wp l o d,(i:Int),((j - 1:Nat):Int)):=by
     simp only [bQ,fT,gQ,e1]
     rw [cI (show(i:Int)<=(j:Int) by omega),cond_true,cU hl' (i:=j) (by omega),cU hl' (i:=a) (by omega)]
     rw [q];rfl
    rw [aI e]
    exact aKv hl hn hd ha hi m (j - 1) (by omega) (by omega) (by omega)
   | true =>
    rw [if_neg (show ¬(!true)=true from by decide),if_neg (by omega)]
    refine aQ ?_
    simp only [bQ,fT,gQ,e1,e2]
    rw [cI (show(i:Int)<=(j:Int) by omega),cond_true,gK hl' (i:=i) (j:=j) (by omega) (by omega),gK hl' (i:=j) (j:=a) (by omega) (by omega),cU hl' (i:=j) (by omega),cU hl' (i:=a) (by omega),dA (show ¬(i:Int) > (j:Int) by omega),cond_false,q]
    rfl
  ·have hsd:scanDown (fun x=>!bK c x d[a]!) d i j=j:=by
    cases j with
    | zero=>rfl
    | succ j=>rw [scanDown,dA h1];rfl
   rw [hsd,if_pos (by omega)]
   refine aQ ?_
   simp only [bQ,fT]
   rw [dA (show ¬(i:Int)<=(j:Int) by omega),cond_false,cI (show(i:Int) > (j:Int) by omega),cond_true,gK hl' (i:=j) (j:=a) (by omega) (by omega)]
theorem aKw (hl:o+n<=l.length)(hn:n<=1048576)(ha:a < n):∀(m:Nat) (d:Array Int) (i j:Nat),d.size=n->a < i->i<=j+2->j < n->j+2 - i < m ->
 aH (bR l0 o n (a:Int) b a3 c) m (wp l o d,(i:Int),(j:Int))=(((partLoop (bK c) a i j d).1:Int),false,wp l o (swp (partLoop (bK c) a i j d).2 (partLoop (bK c) a i j d).1 a))
 | 0,_,_,_,_,_,_,_,h=>absurd h (eL _)
 | m+1,d,i,j,hd,hai,hij,hj,hm=>by
  have h3:=aKu (l:=l) (l0:=l0) (c:=c) (a3:=a3) (b:=b) (a:=a) hl hn hd ha hj (tN ((j:Int)+2 - (i:Int))+1) i (by omega) (by omega)
  have g1:=scanUp_ge (fun x=>bK c x d[a]!) d j i
  have g2:scanUp (fun x=>bK c x d[a]!) d j i<=j+2:=by
   have:=(scanUp_spec (fun x=>bK c x d[a]!) d j _ i rfl).2.1
   by_cases h:i<=j+1
   ·omega
   ·rw [scanUp,dA (by omega)];simp;omega
  have h4:=aKv (l:=l) (l0:=l0) (c:=c) (a3:=a3) (b:=b) (a:=a) hl hn hd ha (i:=scanUp (fun x=>bK c x d[a]!) d j i) (by omega) (tN ((j:Int)+2 - (scanUp (fun x=>bK c x d[a]!) d j i:Nat))+1) j hj (by omega) (by omega)
  have g3:=scanDown_le (fun x=>!bK c x d[a]!) d (scanUp (fun x=>bK c x d[a]!) d j i) j
  have e:bR l0 o n (a:Int) b a3 c (wp l o d,(i:Int),(j:Int))=aH (cP l0 o n (a:Int) b a3 c) (tN ((j:Int)+2 - (i:Int))+1) (wp l o d,(i:Int),(j:Int)):=rfl
  rw [partLoop_eq]
  by_cases h:scanUp (fun x=>bK c x d[a]!) d j i > scanDown (fun x=>!bK c x d[a]!) d (scanUp (fun x=>bK c x d[a]!) d j i) j
  ·rw [if_pos h] at h4 ⊢
   exact aQ (e.trans (h3.trans h4))
  ·rw [if_neg h] at h4 ⊢
   rw [aI (e.trans (h3.trans h4))]
   exact aKw hl hn ha m _ _ _ (by rw [Go.Sort.size_swp];exact hd) (by omega) (by omega) (by omega) (by omega)
theorem aOd (hl:o+n<=l.length)(hn:n<=1048576)(hd:d.size=n) {b p:Nat} (hap:a<=p)(hpb:p < b)(hb:b<=n) :
 aM (wp l o d) o n (a:Int) (b:Int) (p:Int) c=(((partition (bK c) d a b p).1:Int),(partition (bK c) d a b p).2.1,wp l o (partition (bK c) d a b p).2.2):=by
 have hl':o+d.size<=l.length:=by omega
 have hds:(swp d a p).size=n:=by rw [Go.Sort.size_swp];exact hd
 unfold aM partition
 dsimp only
 rw [fT,fT,gK hl' (i:=a) (j:=p) (by omega) (by omega),wN (x:=(a:Int)+1) (n:=a+1) (by omega) (by omega),wN (x:=(b:Int) - 1) (n:=b - 1) (by omega) (by omega)]
 generalize swp d a p=d at hds ⊢
 rw [aKs (l:=l) (a:=a) hl hn hds (by omega) (j:=b - 1) (by omega) _ (a+1) (by omega) (by omega)]
 have g1:=scanUp_ge (fun x=>bK c x d[a]!) d (b - 1) (a+1)
 have g2:=(scanUp_spec (fun x=>bK c x d[a]!) d (b - 1) _ (a+1) rfl).2.1 (by omega)
 rw [aKt (l:=l) (a:=a) hl hn hds (by omega) (i:=scanUp (fun x=>bK c x d[a]!) d (b - 1) (a+1)) (by omega) _ (b - 1) (by omega) (by omega) (by omega)]
 have g3:=scanDown_le (fun x=>!bK c x d[a]!) d (scanUp (fun x=>bK c x d[a]!) d (b - 1) (a+1)) (b - 1)
 generalize scanUp (fun x=>bK c x d[a]!) d (b - 1) (a+1)=i at g1 g2 g3 ⊢
 by_cases h:i > scanDown (fun x=>!bK c x d[a]!) d i (b - 1)
 ·rw [if_pos h,if_pos h]
 ·rw [if_neg h,if_neg h,aKw hl hn (by omega) _ _ _ _ (by rw [Go.Sort.size_swp];exact hds) (by omega) (by omega) (by omega) (by omega)]
theorem aKx (hl:o+n<=l.length)(hn:n<=1048576)(hd:d.size=n)(ha:a < n) {j:Nat} (hj:j < n):∀(m i:Nat),i<=1048577->j+2 - i < m ->
 aH (dH l0 o n (a:Int) b a3 c) m (wp l o d,(i:Int),(j:Int))=(aH (bV l0 o n (a:Int) b a3 c) (tN ((j:Int)+2 - (scanUp (fun x=>!bK c d[a]! x) d j i:Nat))+1) (wp l o d,((scanUp (fun x=>!bK c d[a]! x) d j i:Nat):Int),(j:Int)))
 | 0,_,_,h=>absurd h (eL _)
 | m+1,i,hi,hm=>by
  have hl':o+d.size<=l.length:=by omega
  rw [scanUp]
  by_cases h1:i<=j
  ·rw [cI h1,Bool.true_and]
   have e:dH l0 o n (a:Int) b a3 c (wp l o d,(i:Int),(j:Int))=bif (!bK c d[a]! d[i]!) then .inl (wp l o d,((i+1:Nat):Int),(j:Int)) else .inr (aH (bV l0 o n (a:Int) b a3 c) (tN ((j:Int)+2 - (i:Int))+1) (wp l o d,(i:Int),(j:Int))):=by
    simp only [dH,fT,gQ]
    rw [cI (show(i:Int)<=(j:Int) by omega),cond_true,cU hl' (i:=i) (by omega),cU hl' (i:=a) (by omega)]
    rfl
   cases q:bK c d[a]! d[i]! with
   | false =>
    rw [q] at e
    rw [aI (e.trans (by rfl)),if_pos (show(!false)=true from rfl)]
    exact aKx hl hn hd ha hj m (i+1) (by omega) (by omega)
   | true =>
    rw [q] at e
    rw [if_neg (show ¬(!true)=true from by decide)]
    exact aQ (e.trans (by rfl))
  ·rw [dA h1,Bool.false_and,if_neg Bool.false_ne_true]
   refine aQ ?_
   simp only [dH]
   rw [dA (show ¬(i:Int)<=(j:Int) by omega),cond_false]
theorem aKy (hl:o+n<=l.length)(hn:n<=1048576)(hd:d.size=n)(ha:a < n) {i:Nat} (hi:1<=i/\i<=n+1):∀(m j:Nat),j < n->i<=j+2->j+2 - i < m ->
 aH (bV l0 o n (a:Int) b a3 c) m (wp l o d,(i:Int),(j:Int))=(if i > scanDown (fun x=>bK c d[a]! x) d i j then .inr ((i:Int),wp l o d) else .inl (wp l o (swp d i (scanDown (fun x=>bK c d[a]! x) d i j)),((i+1:Nat):Int),((scanDown (fun x=>bK c d[a]! x) d i j - 1:Nat):Int)))
 | 0,_,_,_,h=>absurd h (eL _)
 | m+1,j,hj,hij,hm=>by
  have hl':o+d.size<=l.length:=by omega
  by_cases h1:i<=j
  ·rw [oI _ _ _ _ (by omega),cI h1,Bool.true_and]
   have e1:W ((j:Int) - 1)=((j - 1:Nat):Int):=wN (by omega) (by omega)
   have e2:W ((i:Int)+1)=((i+1:Nat):Int):=wN (by omega) (by omega)
   cases q:bK c d[a]! d[j]! with
   | true =>
    rw [if_pos (show(true)=true from rfl)]
    have e:bV l0 o n (a:Int) b a3 c (wp l o d,(i:Int),(j:Int))=.inl (wp l o d,(i:Int),((j - 1:Nat):Int)):=by
     simp only [bV,fT,gQ,e1]
     rw [cI (show(i:Int)<=(j:Int) by omega),cond_true,cU hl' (i:=j) (by omega),cU hl' (i:=a) (by omega)]
     rw [q];rfl
    rw [aI e]
    exact aKy hl hn hd ha hi m (j - 1) (by omega) (by omega) (by omega)
   | false =>
    rw [if_neg (show ¬(false)=true from by decide),if_neg (by omega)]
    refine aQ ?_
    simp only [bV,fT,gQ,e1,e2]
    rw [cI (show(i:Int)<=(j:Int) by omega),cond_true,gK hl' (i:=i) (j:=j) (by omega) (by omega),cU hl' (i:=j) (by omega),cU hl' (i:=a) (by omega),dA (show ¬(i:Int) > (j:Int) by omega),cond_false,q]
    rfl
  ·have hsd:scanDown (fun x=>bK c d[a]! x) d i j=j:=by
    cases j with
    | zero=>rfl
    | succ j=>rw [scanDown,dA h1];rfl
   rw [hsd,if_pos (by omega)]
   refine aQ ?_
   simp only [bV,fT]
   rw [dA (show ¬(i:Int)<=(j:Int) by omega),cond_false,cI (show(i:Int) > (j:Int) by omega),cond_true]
theorem aKz (hl:o+n<=l.length)(hn:n<=1048576)(ha:a < n):∀(m:Nat) (d:Array Int) (i j:Nat),d.size=n->a < i->i<=j+2->j < n->j+2 - i < m ->
 aH (cQ l0 o n (a:Int) b a3 c) m (wp l o d,(i:Int),(j:Int))=(((partEqLoop (bK c) a i j d).1:Int),wp l o (partEqLoop (bK c) a i j d).2)
 | 0,_,_,_,_,_,_,_,h=>absurd h (eL _)
 | m+1,d,i,j,hd,hai,hij,hj,hm=>by
  have h3:=aKx (l:=l) (l0:=l0) (c:=c) (a3:=a3) (b:=b) (a:=a) hl hn hd ha hj (tN ((j:Int)+2 - (i:Int))+1) i (by omega) (by omega)
  have g1:=scanUp_ge (fun x=>!bK c d[a]! x) d j i
  have g2:scanUp (fun x=>!bK c d[a]! x) d j i<=j+2:=by
   have:=(scanUp_spec (fun x=>!bK c d[a]! x) d j _ i rfl).2.1
   by_cases h:i<=j+1
   ·omega
   ·rw [scanUp,dA (by omega)];simp;omega
  have h4:=aKy (l:=l) (l0:=l0) (c:=c) (a3:=a3) (b:=b) (a:=a) hl hn hd ha (i:=scanUp (fun x=>!bK c d[a]! x) d j i) (by omega) (tN ((j:Int)+2 - (scanUp (fun x=>!bK c d[a]! x) d j i:Nat))+1) j hj (by omega) (by omega)
  have g3:=scanDown_le (fun x=>bK c d[a]! x) d (scanUp (fun x=>!bK c d[a]! x) d j i) j
  have e:cQ l0 o n (a:Int) b a3 c (wp l o d,(i:Int),(j:Int))=aH (dH l0 o n (a:Int) b a3 c) (tN ((j:Int)+2 - (i:Int))+1) (wp l o d,(i:Int),(j:Int)):=rfl
  rw [partEqLoop_eq]
  by_cases h:scanUp (fun x=>!bK c d[a]! x) d j i > scanDown (fun x=>bK c d[a]! x) d (scanUp (fun x=>!bK c d[a]! x) d j i) j
  ·rw [if_pos h] at h4 ⊢
   exact aQ (e.trans (h3.trans h4))
  ·rw [if_neg h] at h4 ⊢
   rw [aI (e.trans (h3.trans h4))]
   exact aKz hl hn ha m _ _ _ (by rw [Go.Sort.size_swp];exact hd) (by omega) (by omega) (by omega) (by omega)
theorem aOe (hl:o+n<=l.length)(hn:n<=1048576)(hd:d.size=n) {b p:Nat} (hap:a<=p)(hpb:p < b)(hb:b<=n) :
 dC (wp l o d) o n (a:Int) (b:Int) (p:Int) c=(((partitionEqual (bK c) d a b p).1:Int),wp l o (partitionEqual (bK c) d a b p).2):=by
 have hl':o+d.size<=l.length:=by omega
 unfold dC partitionEqual
 rw [fT,fT,gK hl' (i:=a) (j:=p) (by omega) (by omega),wN (x:=(a:Int)+1) (n:=a+1) (by omega) (by omega),wN (x:=(b:Int) - 1) (n:=b - 1) (by omega) (by omega)]
 exact aKz hl hn (by omega) _ _ _ _ (by rw [Go.Sort.size_swp];exact hd) (by omega) (by omega) (by omega) (by omega)
end
end Go.Proofs.YtkdfcbmcgnaicaaGreat
namespace Go.Proofs.YtkdfcbmcgnaicaaGreat
open Go.Proofs Go.Aw Go.RowKit
set_option maxRecDepth 100000
section
open Go.Sort
variable {o n a b : Nat} {l l0 : List Int} {c : qT} {d : Array Int}
theorem rM (lt:Int->Int->Bool):∀(j:Nat) (d:Array Int),(shiftDown lt j d).size=d.size
 | 0,d=>rfl
 | j+1,d=>by
  rw [shiftDown]
  split
  ·rfl
  ·rw [rM lt j,Go.Sort.size_swp]
theorem vI (lt:Int->Int->Bool)(b:Nat):∀(m j:Nat) (d:Array Int),b - j<=m->(shiftUp lt b j d).size=d.size
 | 0,j,d,h=>by rw [shiftUp,if_neg (by omega)]
 | m+1,j,d,h=>by
  rw [shiftUp]
  split
  ·split
   ·rfl
   ·rw [vI lt b m _ _ (by omega),Go.Sort.size_swp]
  ·rfl
theorem vJ (lt:Int->Int->Bool)(a i:Nat)(d:Array Int):(fixDown lt a i d).size=d.size:=by
 unfold fixDown;split
 ·exact rM _ _ _
 ·rfl
theorem aA1 (lt:Int->Int->Bool)(b i:Nat)(d:Array Int):(fixUp lt b i d).size=d.size:=by
 unfold fixUp;split
 ·exact vI _ _ _ _ _ (Nat.le_refl _)
 ·rfl
theorem aK0 (hl:o+n<=l.length)(hn:n<=1048576)(hb:b<=n) {i s:Int}:∀(m:Nat) (d:Array Int) (j:Nat),d.size=n->1<=j->j<=n->b - j < m ->
 aH (cA l0 o n (a:Int) (b:Int) c) m (wp l o d,i,s,(j:Int))=.inl (wp l o (shiftUp (bK c) b j d),i,s+1)
 | 0,_,_,_,_,_,h=>absurd h (eL _)
 | m+1,d,j,hd,hj,hjn,hm=>by
  have hl':o+d.size<=l.length:=by omega
  have e1:W ((j:Int) - 1)=((j - 1:Nat):Int):=wN (by omega) (by omega)
  rw [shiftUp]
  by_cases h1:j < b
  ·rw [if_pos h1]
   have e:cA l0 o n (a:Int) (b:Int) c (wp l o d,i,s,(j:Int))=bif !bK c d[j]! d[j - 1]! then .inr (.inl (wp l o d,i,s+1)) else .inl (wp l o (swp d j (j - 1)),i,s,((j+1:Nat):Int)):=by
    simp only [cA,fT,gQ,e1]
    rw [cI (show(j:Int) < (b:Int) by omega),cond_true,gK hl' (i:=j) (j:=j - 1) (by omega) (by omega),cU hl' (i:=j) (by omega),cU hl' (i:=j - 1) (by omega)]
    rfl
   cases q:bK c d[j]! d[j - 1]! with
   | true =>
    rw [q] at e
    rw [aI (e.trans (by rfl)),if_neg (show ¬(!true)=true by decide)]
    exact aK0 hl hn hb m _ (j+1) (by rw [Go.Sort.size_swp];exact hd) (by omega) (by omega) (by omega)
   | false =>
    rw [q] at e
    rw [if_pos (show(!false)=true from rfl)]
    exact aQ (e.trans (by rfl))
  ·rw [if_neg h1]
   refine aQ ?_
   simp only [cA]
   rw [dA (show ¬(j:Int) < (b:Int) by omega),cond_false]
theorem aU7 (hl:o+n<=l.length)(hn:n<=1048576)(hb:b<=n) {s:Int} {i:Nat} (hd:d.size=n)(hi:i<=b) :
 (bif decide (W ((b:Int) - (i:Int))≥2) then(aH (cA l0 o n (a:Int) (b:Int) c) (tN ((b:Int) - ((i:Int)+1))+1) (wp l o d,(i:Int),s,(i:Int)+1)) else .inl (wp l o d,(i:Int),s+1))=.inl (wp l o (fixUp (bK c) b i d),(i:Int),s+1):=by
 rw [wN (x:=(b:Int) - (i:Int)) (n:=b - i) (by omega) (by omega)]
 unfold fixUp
 by_cases h:b - i≥2
 ·rw [cI (show((b - i:Nat):Int)≥2 by omega),cond_true,if_pos h]
  exact aK0 (i:=(i:Int)) hl hn hb _ d (i+1) hd (by omega) (by omega) (by omega)
 ·rw [dA (show ¬((b - i:Nat):Int)≥2 by omega),cond_false,if_neg h]
theorem aSm (hl:o+n<=l.length)(hn:n<=1048576)(hb:b<=n) {s:Int} {i:Nat} (hd:d.size=n)(hi:i<=b) :
 (bif decide (W ((b:Int) - (i:Int))≥2) then Sum.inr (aH (cA l0 o n (a:Int) (b:Int) c) (tN ((b:Int) - ((i:Int)+1))+1) (wp l o d,(i:Int),s,(i:Int)+1)) else Sum.inr (Sum.inl (wp l o d,(i:Int),s+1)):(List Int×Zt)⊕((List Int×Int×Int)⊕(Bool×List Int)))=.inr (.inl (wp l o (fixUp (bK c) b i d),(i:Int),s+1)):=by
 rw [←aU7 (l0:=l0) (a:=a) hl hn hb hd hi]
 cases decide (W ((b:Int) - (i:Int))≥2)<;>rfl
theorem aK1 (hl:o+n<=l.length)(hn:n<=1048576)(hb:b<=n) {s:Int} {i:Nat} (hi:i<=b):∀(m:Nat) (d:Array Int) (j:Nat),d.size=n->j < n->j < m ->
 aH (cB l0 o n (a:Int) (b:Int) c) m (wp l o d,(i:Int),s,(j:Int))=.inl (wp l o (fixUp (bK c) b i (shiftDown (bK c) j d)),(i:Int),s+1)
 | 0,_,_,_,_,h=>absurd h (eL _)
 | m+1,d,0,hd,hj,hm=>by
  refine aQ ?_
  simp only [cB]
  rw [dA (show ¬((0:Nat):Int)≥1 by omega),cond_false]
  exact aSm hl hn hb hd hi
 | m+1,d,j+1,hd,hj,hm=>by
  have hl':o+d.size<=l.length:=by omega
  have e1:W (((j+1:Nat):Int) - 1)=((j:Nat):Int):=wN (by omega) (by omega)
  rw [shiftDown]
  have e:cB l0 o n (a:Int) (b:Int) c (wp l o d,(i:Int),s,((j+1:Nat):Int))=bif !bK c d[j+1]! d[j]! then .inr (.inl (wp l o (fixUp (bK c) b i d),(i:Int),s+1)) else .inl (wp l o (swp d (j+1) j),(i:Int),s,(j:Int)):=by
   simp only [cB,fT,gQ,e1]
   rw [cI (show((j+1:Nat):Int)≥1 by omega),cond_true,gK hl' (i:=j+1) (j:=j) (by omega) (by omega),cU hl' (i:=j+1) (by omega),cU hl' (i:=j) (by omega)]
   exact congrArg (fun z=>bif !bK c d[j+1]! d[j]! then z else _) (aSm (l0:=l0) (a:=a) (c:=c) hl hn hb hd hi)
  cases q:bK c d[j+1]! d[j]! with
  | true =>
   rw [q] at e
   rw [aI (e.trans (by rfl)),if_neg (show ¬(!true)=true by decide)]
   exact aK1 hl hn hb hi m _ j (by rw [Go.Sort.size_swp];exact hd) (by omega) (by omega)
  | false =>
   rw [q] at e
   rw [if_pos (show(!false)=true from rfl)]
   exact aQ (e.trans (by rfl))
def aOf (l:List Int)(o a b:Nat)(c:qT)(d:Array Int)(k:Nat)(s:Int):(List Int×Int×Int)⊕(Bool×List Int) :=
 if k=b then .inr (true,wp l o d) else if b - a < 50 then .inr (false,wp l o d) else .inl (wp l o (fixUp (bK c) b k (fixDown (bK c) a k (swp d k (k - 1)))),(k:Int),s+1)
theorem aWl (hl:o+n<=l.length)(hn:n<=1048576)(hb:b<=n) {s:Int} {k:Nat} (hd:d.size=n)(hk:a < k)(hkb:k<=b) :
 (bif ((k:Int) == (b:Int)) then Sum.inr (Sum.inr (true,wp l o d)) else bif decide (W ((b:Int) - (a:Int)) < 50) then Sum.inr (Sum.inr (false,wp l o d)) else
  bif decide (W ((k:Int) - (a:Int))≥2) then Sum.inr (aH (cB l0 o n (a:Int) (b:Int) c) (tN ((k - 1:Nat):Int)+1) ((((wp l o d).set (o+k) ((wp l o d).getD (o+(k - 1)) dF)).set (o+(k - 1)) ((wp l o d).getD (o+k) dF)),(k:Int),s,((k - 1:Nat):Int)))
  else bif decide (W ((b:Int) - (k:Int))≥2) then Sum.inr (aH (cA l0 o n (a:Int) (b:Int) c) (tN ((b:Int) - ((k:Int)+1))+1) ((((wp l o d).set (o+k) ((wp l o d).getD (o+(k - 1)) dF)).set (o+(k - 1)) ((wp l o d).getD (o+k) dF)),(k:Int),s,(k:Int)+1)) else Sum.inr (Sum.inl ((((wp l o d).set (o+k) ((wp l o d).getD (o+(k - 1)) dF)).set (o+(k - 1)) ((wp l o d).getD (o+k) dF)),(k:Int),s+1)) :
  (List Int×Int×Int)⊕((List Int×Int×Int)⊕(Bool×List Int)))=.inr (aOf l o a b c d k s):=by
 have hl':o+d.size<=l.length:=by omega
 unfold aOf
 by_cases h1:k=b
 ·rw [if_pos h1,show((k:Int) == (b:Int))=true by simp;omega];rfl
 ·rw [if_neg h1,show((k:Int) == (b:Int))=false by simp;omega,cond_false,wN (x:=(b:Int) - (a:Int)) (n:=b - a) (by omega) (by omega)]
  by_cases h2:b - a < 50
  ·rw [if_pos h2,cI (by omega)];rfl
  ·rw [if_neg h2,dA (by omega),cond_false,gK hl' (i:=k) (j:=k - 1) (by omega) (by omega),wN (x:=(k:Int) - (a:Int)) (n:=k - a) (by omega) (by omega)]
   have hds:(swp d k (k - 1)).size=n:=by rw [Go.Sort.size_swp];exact hd
   unfold fixDown
   by_cases h3:k - a≥2
   ·rw [cI (show((k - a:Nat):Int)≥2 by omega),cond_true,if_pos h3,aK1 hl hn hb hkb _ _ (k - 1) hds (by omega) (by omega)]
   ·rw [dA (show ¬((k - a:Nat):Int)≥2 by omega),cond_false,if_neg h3]
    have:=aU7 (l0:=l0) (a:=a) (c:=c) (s:=s) hl hn hb hds hkb
    rw [←this]
    cases decide (W ((b:Int) - (k:Int))≥2)<;>rfl
theorem aK2 (hl:o+n<=l.length)(hn:n<=1048576)(hb:b<=n)(hd:d.size=n) {s:Int}:∀(m i:Nat),a < i->i<=b->b - i < m ->
 aH (bC l0 o n (a:Int) (b:Int) c) m (wp l o d,(i:Int),s)=aOf l o a b c d (scanSorted (bK c) d b i) s
 | 0,_,_,_,h=>absurd h (eL _)
 | m+1,i,hai,hib,hm=>by
  have hl':o+d.size<=l.length:=by omega
  have e1:W ((i:Int) - 1)=((i - 1:Nat):Int):=wN (by omega) (by omega)
  rw [scanSorted]
  have hT:=aWl (l0:=l0) (c:=c) (s:=s) hl hn hb hd hai hib
  by_cases h1:i < b
  ·rw [cI h1,Bool.true_and]
   cases q:bK c d[i]! d[i - 1]! with
   | true =>
    rw [if_neg (show ¬(!true)=true by decide)]
    refine aQ ?_
    simp only [bC,fT,gQ,e1]
    rw [cI (show(i:Int) < (b:Int) by omega),cond_true]
    rw [show(!bK c ((wp l o d).getD (o+i) dF) ((wp l o d).getD (o+(i - 1)) dF))=false by rw [cU hl' (by omega),cU hl' (by omega),q];rfl,cond_false]
    exact hT
   | false =>
    rw [if_pos (show(!false)=true from rfl)]
    have e:bC l0 o n (a:Int) (b:Int) c (wp l o d,(i:Int),s)=.inl (wp l o d,((i+1:Nat):Int),s):=by
     simp only [bC,fT,gQ,e1]
     rw [cI (show(i:Int) < (b:Int) by omega),cond_true]
     rw [show(!bK c ((wp l o d).getD (o+i) dF) ((wp l o d).getD (o+(i - 1)) dF))=true by rw [cU hl' (by omega),cU hl' (by omega),q];rfl,cond_true]
     rfl
    rw [aI e]
    exact aK2 hl hn hb hd m (i+1) (by omega) (by omega) (by omega)
  ·rw [dA h1,Bool.false_and,if_neg Bool.false_ne_true]
   refine aQ ?_
   simp only [bC,fT,gQ,e1]
   rw [dA (show ¬(i:Int) < (b:Int) by omega),cond_false]
   exact hT
theorem mW (lt:Int->Int->Bool)(d:Array Int)(b:Nat):∀(m i:Nat),b - i<=m->i<=b->i<=scanSorted lt d b i/\scanSorted lt d b i<=b
 | 0,i,h,hi=>by rw [scanSorted,dA (by omega),Bool.false_and,if_neg Bool.false_ne_true];exact⟨Nat.le_refl _,hi⟩
 | m+1,i,h,hi=>by
  rw [scanSorted]
  split
  ·rename_i hc
   simp at hc
   have:=mW lt d b m (i+1) (by omega) (by omega)
   omega
  ·exact⟨Nat.le_refl _,hi⟩
theorem aK3 (hl:o+n<=l.length)(hn:n<=1048576)(hb:b<=n):∀(k m:Nat) (d:Array Int) (i:Nat) (s:Int),d.size=n->a < i->i<=b->s+k=5->k < m ->
 aH (bN l0 o n (a:Int) (b:Int) c) m (wp l o d,(i:Int),s)=((partialIns (bK c) a b k i d).2,wp l o (partialIns (bK c) a b k i d).1)/\(partialIns (bK c) a b k i d).1.size=n
 | 0,m+1,d,i,s,hd,hai,hib,hs,hm=>by
  refine⟨aQ ?_,hd⟩
  simp only [bN]
  rw [dA (show ¬s < 5 by omega),cond_false];rfl
 | k+1,m+1,d,i,s,hd,hai,hib,hs,hm=>by
  have e:bN l0 o n (a:Int) (b:Int) c (wp l o d,(i:Int),s)=aOf l o a b c d (scanSorted (bK c) d b i) s:=by
   simp only [bN]
   rw [cI (show s < 5 by omega),cond_true]
   exact aK2 hl hn hb hd _ i hai hib (by omega)
  rw [partialIns_succ]
  have hr:=mW (bK c) d b _ i (Nat.le_refl _) hib
  generalize scanSorted (bK c) d b i=q at e hr ⊢
  unfold aOf at e
  by_cases h1:q=b
  ·rw [if_pos h1] at e ⊢
   exact⟨aQ e,hd⟩
  ·rw [if_neg h1] at e ⊢
   by_cases h2:b - a < 50
   ·rw [if_pos h2] at e ⊢
    exact⟨aQ e,hd⟩
   ·rw [if_neg h2] at e ⊢
    rw [aI e]
    exact aK3 hl hn hb k m _ q (s+1) (by rw [aA1,vJ,Go.Sort.size_swp];exact hd) (by omega) hr.2 (by omega) (by omega)
theorem aOg (hl:o+n<=l.length)(hn:n<=1048576)(hd:d.size=n)(hab:a < b)(hb:b<=n) :
 cS (wp l o d) o n (a:Int) (b:Int) c=((partialInsertionSort (bK c) d a b).2,wp l o (partialInsertionSort (bK c) d a b).1)/\(partialInsertionSort (bK c) d a b).1.size=n:=by
 unfold cS partialInsertionSort
 rw [wN (x:=(a:Int)+1) (n:=a+1) (by omega) (by omega)]
 exact aK3 hl hn hb 5 _ d (a+1) 0 hd (by omega) (by omega) (by omega) (by decide)
end
end Go.Proofs.YtkdfcbmcgnaicaaGreat
namespace Go.Proofs.YtkdfcbmcgnaicaaGreat
open Go.Proofs Go.Aw Go.RowKit
set_option maxRecDepth 100000
section
open Go.Sort
variable {o n a b : Nat} {l l0 : List Int} {c : qT} {d : Array Int}
theorem aOh (hl:o+n<=l.length)(hd:d.size=n) {x y s:Nat} (hx:x < n)(hy:y < n)(hs:s<=1000) :
 aT (wp l o d) o n (x:Int) (y:Int) (s:Int) c=(((order2 (bK c) d x y s).1:Int),((order2 (bK c) d x y s).2.1:Int),((order2 (bK c) d x y s).2.2:Int))/\(order2 (bK c) d x y s).2.2<=s+1:=by
 have hl':o+d.size<=l.length:=by omega
 unfold aT order2
 rw [gQ,fT,fT,cU hl' (by omega),cU hl' (by omega)]
 cases bK c d[y]! d[x]! with
 | true=>rw [cond_true,if_pos rfl];exact⟨by rw [wN (x:=(s:Int)+1) (n:=s+1) (by omega) (by omega)],Nat.le_refl _⟩
 | false=>rw [cond_false,if_neg Bool.false_ne_true];exact⟨rfl,Nat.le_succ _⟩
theorem aOi (hl:o+n<=l.length)(hd:d.size=n) {x y z s:Nat} (hx:x < n)(hy:y < n)(hz:z < n)(hs:s<=900) :
 dN (wp l o d) o n (x:Int) (y:Int) (z:Int) (s:Int) c=(((median (bK c) d x y z s).1:Int),((median (bK c) d x y z s).2:Int))/\(median (bK c) d x y z s).2<=s+3:=by
 unfold dN median
 simp only [aN4]
 have h1:=aOh (c:=c) hl hd hx hy (s:=s) (by omega)
 have m1:=order2_mem (bK c) d x y s
 rw [h1.1]
 generalize order2 (bK c) d x y s=r1 at h1 m1 ⊢
 have h2:=aOh (c:=c) hl hd (x:=r1.2.1) (y:=z) (s:=r1.2.2) (by omega) hz (by omega)
 have m2:=order2_mem (bK c) d r1.2.1 z r1.2.2
 rw [h2.1]
 generalize order2 (bK c) d r1.2.1 z r1.2.2=r2 at h2 m2 ⊢
 have h3:=aOh (c:=c) hl hd (x:=r1.1) (y:=r2.1) (s:=r2.2.2) (by omega) (by omega) (by omega)
 rw [h3.1]
 exact⟨rfl,by omega⟩
theorem aOj (hl:o+n<=l.length)(hn:n<=1048576)(hd:d.size=n) {x s:Nat} (hx:1<=x)(hx2:x+1 < n)(hs:s<=900) :
 dO (wp l o d) o n (x:Int) (s:Int) c=(((medianAdjacent (bK c) d x s).1:Int),((medianAdjacent (bK c) d x s).2:Int))/\(medianAdjacent (bK c) d x s).2<=s+3:=by
 have h:=aOi (c:=((c.1.1,c.1.2.1,(wp l o d,c.1.2.2.2)),c.2)) hl hd (x:=x - 1) (y:=x) (z:=x+1) (s:=s) (by omega) (by omega) (by omega) hs
 unfold dO
 rw [wN (x:=(x:Int) - 1) (n:=x - 1) (by omega) (by omega),wN (x:=(x:Int)+1) (n:=x+1) (by omega) (by omega),h.1]
 exact⟨rfl,h.2⟩
theorem aTn (v0 v:List Int)(x y z s:Int):dN v0 o n x y z s ((c.1.1,c.1.2.1,(v,c.1.2.2.2)),c.2)=dN v0 o n x y z s c:=rfl
theorem aTo (v0 v:List Int)(x s:Int):dO v0 o n x s ((c.1.1,c.1.2.1,(v,c.1.2.2.2)),c.2)=dO v0 o n x s c:=rfl
def aK4:Hint->Int
 | .unknown=>0
 | .increasing=>1
 | .decreasing=>2
theorem aK5 (r:Nat×Nat):(bif (((r.2:Nat):Int) == 0) then(((r.1:Nat):Int),(1:Int)) else bif (((r.2:Nat):Int) == 12) then(((r.1:Nat):Int),2) else(((r.1:Nat):Int),0))=((r.1:Int),aK4 (if r.2=0 then .increasing else if r.2=12 then .decreasing else .unknown)):=by
 by_cases h:r.2=0
 ·rw [if_pos h,h];rfl
 ·rw [if_neg h,show(((r.2:Nat):Int) == 0)=false by simp;omega,cond_false]
  by_cases h2:r.2=12
  ·rw [if_pos h2,h2];rfl
  ·rw [if_neg h2,show(((r.2:Nat):Int) == 12)=false by simp;omega,cond_false];rfl
theorem aOk (hl:o+n<=l.length)(hn:n<=1048576)(hd:d.size=n)(hab:a < b)(hb:b<=n) :
 bD (wp l o d) o n (a:Int) (b:Int) c=(((choosePivot (bK c) d a b).1:Int),aK4 (choosePivot (bK c) d a b).2):=by
 have hw:W ((b:Int) - (a:Int))=((b - a:Nat):Int):=wN (by omega) (by omega)
 have hq:W (Int.tdiv ((b - a:Nat):Int) 4)=(((b - a) / 4:Nat):Int):=by rw [aCs (by omega)];omega
 have hk:∀k:Nat,k<=3->W ((a:Int)+(W ((((b - a) / 4:Nat):Int)*(k:Int))))=((a+(b - a) / 4*k:Nat):Int):=fun k hk=>by
  rw [wN (x:=(((b - a) / 4:Nat):Int)*(k:Int)) (n:=(b - a) / 4*k) (by push_cast;rfl) (Nat.le_trans (Nat.mul_le_mul_left _ hk) (by omega))]
  exact wN (by push_cast;rfl) (by have:=Nat.mul_le_mul_left ((b - a) / 4) hk;omega)
 have hk1:=hk 1 (by omega);have hk2:=hk 2 (by omega);have hk3:=hk 3 (by omega)
 simp only [Int.natCast_one] at hk1
 rw [show((2:Nat):Int)=2 from rfl] at hk2
 rw [show((3:Nat):Int)=3 from rfl] at hk3
 unfold bD choosePivot
 simp only [gC,gB,bJ,bI,bH]
 simp only [aTo,aTn]
 rw [hw,hq,hk1,hk2,hk3]
 by_cases h8:b - a≥8
 ·rw [cI (show((b - a:Nat):Int)≥8 by omega),cond_true,if_pos h8]
  by_cases h50:b - a≥50
  ·rw [cI (show((b - a:Nat):Int)≥50 by omega),cond_true,if_pos h50]
   have g1:=aOj (c:=c) hl hn hd (x:=a+(b - a) / 4*1) (s:=0) (by omega) (by omega) (by omega)
   have m1:(medianAdjacent (bK c) d (a+(b - a) / 4*1) 0).1 < n:=by rcases medianAdjacent_mem (bK c) d (a+(b - a) / 4*1) 0 with h | h | h<;>omega
   rw [Int.natCast_zero] at g1
   rw [g1.1]
   generalize medianAdjacent (bK c) d (a+(b - a) / 4*1) 0=r1 at g1 m1 ⊢
   have g2:=aOj (c:=c) hl hn hd (x:=a+(b - a) / 4*2) (s:=r1.2) (by omega) (by omega) (by omega)
   have m2:(medianAdjacent (bK c) d (a+(b - a) / 4*2) r1.2).1 < n:=by rcases medianAdjacent_mem (bK c) d (a+(b - a) / 4*2) r1.2 with h | h | h<;>omega
   rw [g2.1]
   generalize medianAdjacent (bK c) d (a+(b - a) / 4*2) r1.2=r2 at g2 m2 ⊢
   have g3:=aOj (c:=c) hl hn hd (x:=a+(b - a) / 4*3) (s:=r2.2) (by omega) (by omega) (by omega)
   have m3:(medianAdjacent (bK c) d (a+(b - a) / 4*3) r2.2).1 < n:=by rcases medianAdjacent_mem (bK c) d (a+(b - a) / 4*3) r2.2 with h | h | h<;>omega
   rw [g3.1]
   generalize medianAdjacent (bK c) d (a+(b - a) / 4*3) r2.2=r3 at g3 m3 ⊢
   have g4:=aOi (c:=c) hl hd (x:=r1.1) (y:=r2.1) (z:=r3.1) (s:=r3.2) m1 m2 m3 (by omega)
   rw [g4.1]
   exact aK5 _
  ·rw [dA (show ¬((b - a:Nat):Int)≥50 by omega),cond_false,if_neg h50]
   have g4:=aOi (c:=c) hl hd (x:=a+(b - a) / 4*1) (y:=a+(b - a) / 4*2) (z:=a+(b - a) / 4*3) (s:=0) (by omega) (by omega) (by omega) (by omega)
   rw [Int.natCast_zero] at g4
   rw [g4.1]
   exact aK5 _
 ·rw [dA (show ¬((b - a:Nat):Int)≥8 by omega),cond_false,if_neg h8]
  rfl
theorem aOl {x y:Nat} (hx:x < 18446744073709551616)(hy:y < 18446744073709551616):IntKind.wrap .u64 ((BitVec.ofInt 64 (x:Int) ^^^ BitVec.ofInt 64 (y:Int)).toNat:Int)=((x ^^^ y:Nat):Int):=by
 have h:x ^^^ y < 2 ^ 64:=Nat.xor_lt_two_pow (by omega) (by omega)
 rw [BitVec.toNat_xor,BitVec.toNat_ofInt,BitVec.toNat_ofInt,show((x:Int) % ((2 ^ 64:Nat):Int)).toNat=x by omega,show((y:Int) % ((2 ^ 64:Nat):Int)).toNat=y by omega,IntKind.wrap_u64]
 omega
theorem aU8 {x:Nat} (hx:x < 18446744073709551616):eA (x:Int)=(((xorNextN x:Nat):Int),((xorNextN x:Nat):Int)):=by
 have e1:IntKind.wrap .u64 ((BitVec.ofInt 64 (x:Int) ^^^ BitVec.ofInt 64 (IntKind.wrap .u64 ((x:Int)*2 ^ (min (tN 13) 64)))).toNat:Int)=((x ^^^ (x*8192 % 18446744073709551616):Nat):Int):=by
  rw [show(2:Int) ^ (min (tN 13) 64)=8192 from by decide,IntKind.wrap_u64 ((x:Int)*8192),show((x:Int)*8192 % 18446744073709551616)=((x*8192 % 18446744073709551616:Nat):Int) by omega]
  exact aOl hx (by omega)
 unfold eA xorNextN
 simp only [e1]
 obtain⟨A,hA⟩:∃A:Nat,A=x ^^^ (x*8192 % 18446744073709551616):=⟨_,rfl⟩
 have lA:A < 18446744073709551616:=by rw [hA];exact Nat.xor_lt_two_pow (n:=64) (by omega) (by omega)
 rw [←hA]
 have e2:IntKind.wrap .u64 ((BitVec.ofInt 64 (A:Int) ^^^ BitVec.ofInt 64 (Int.fdiv (A:Int) (2 ^ (min (tN 7) 64)))).toNat:Int)=((A ^^^ (A / 128):Nat):Int):=by
  rw [show(2:Int) ^ (min (tN 7) 64)=128 from by decide,Int.fdiv_eq_ediv_of_nonneg _ (by decide),show((A:Int) / 128)=((A / 128:Nat):Int) by omega]
  exact aOl lA (by omega)
 simp only [e2]
 obtain⟨B,hB⟩:∃B:Nat,B=A ^^^ (A / 128):=⟨_,rfl⟩
 have lB:B < 18446744073709551616:=by rw [hB];exact Nat.xor_lt_two_pow (n:=64) (by omega) (by omega)
 rw [←hB]
 have e3:IntKind.wrap .u64 ((BitVec.ofInt 64 (B:Int) ^^^ BitVec.ofInt 64 (IntKind.wrap .u64 ((B:Int)*2 ^ (min (tN 17) 64)))).toNat:Int)=((B ^^^ (B*131072 % 18446744073709551616):Nat):Int):=by
  rw [show(2:Int) ^ (min (tN 17) 64)=131072 from by decide,IntKind.wrap_u64 ((B:Int)*131072),show((B:Int)*131072 % 18446744073709551616)=((B*131072 % 18446744073709551616:Nat):Int) by omega]
  exact aOl lB (by omega)
 rw [e3]
theorem aA2 (hl:o+n<=l.length)(hn:n<=1048576)(hd:d.size=n)(hab:a+8<=b)(hb:b<=n) {i:Nat} (h1:a+(b - a) / 4*2<=i+1)(h2:i<=a+(b - a) / 4*2+1)(r:UInt64) :
 eP l0 o n (a:Int) (b:Int) c (wp l o d,(i:Int),((r.toNat:Nat):Int)) =
  .inl (wp l o (breakStep a (b - a) (1 <<< bitsLen (b - a)) (r,d) i).2,((i+1:Nat):Int),(((breakStep a (b - a) (1 <<< bitsLen (b - a)) (r,d) i).1.toNat:Nat):Int))/\(breakStep a (b - a) (1 <<< bitsLen (b - a)) (r,d) i).2.size=n:=by
 have hl':o+d.size<=l.length:=by omega
 have hw:W ((b:Int) - (a:Int))=((b - a:Nat):Int):=wN (by omega) (by omega)
 have hq:W (Int.tdiv ((b - a:Nat):Int) 4)=(((b - a) / 4:Nat):Int):=by rw [aCs (by omega)];omega
 have hA:W ((a:Int)+(W ((((b - a) / 4:Nat):Int)*2)))=((a+(b - a) / 4*2:Nat):Int):=by
  rw [wN (x:=(((b - a) / 4:Nat):Int)*2) (n:=(b - a) / 4*2) (by omega) (by omega)];exact wN (by omega) (by omega)
 have hA1:W (((a+(b - a) / 4*2:Nat):Int)+1)=((a+(b - a) / 4*2+1:Nat):Int):=wN (by omega) (by omega)
 have hM:=aN6 (n:=b - a) (by omega) (by omega)
 have hxs:=aU8 (x:=r.toNat) (by have:=r.toNat_lt;omega)
 have hxl:xorNextN r.toNat < 18446744073709551616:=xorNextN_lt _ (by have:=r.toNat_lt;omega)
 have hO:aMi ((xorNextN r.toNat:Nat):Int) (eI ((b - a:Nat):Int))=((xorNextN r.toNat &&& (1 <<< bitsLen (b - a) - 1):Nat):Int):=by
  rw [aN5 (by omega),aGt _ ⟨hM.1,by omega⟩,BitVec.toNat_ofInt]
  rw [show(((xorNextN r.toNat:Nat):Int) % ((2 ^ 64:Nat):Int)).toNat=xorNextN r.toNat by omega]
 unfold aMi at hO
 have hle:xorNextN r.toNat &&& (1 <<< bitsLen (b - a) - 1)<=1 <<< bitsLen (b - a) - 1:=Nat.and_le_right
 unfold breakStep
 simp only [xorNext_toNat]
 generalize hoo:xorNextN r.toNat &&& (1 <<< bitsLen (b - a) - 1)=O at hO hle ⊢
 simp only [eP,hw,hq,hA,hA1,hxs,hO,fT]
 rw [cI (show(i:Int)<=((a+(b - a) / 4*2+1:Nat):Int) by omega),cond_true]
 by_cases h:O≥b - a
 ·rw [cI (show(O:Int)≥((b - a:Nat):Int) by omega),cond_true,if_pos h,wN (x:=(O:Int) - ((b - a:Nat):Int)) (n:=O - (b - a)) (by omega) (by omega),wN (x:=(a:Int)+((O - (b - a):Nat):Int)) (n:=a+(O - (b - a))) (by omega) (by omega),fT,gK hl' (i:=i) (j:=a+(O - (b - a))) (by omega) (by omega)]
  exact⟨rfl,by rw [Go.Sort.size_swp];exact hd⟩
 ·rw [dA (show ¬(O:Int)≥((b - a:Nat):Int) by omega),cond_false,if_neg h,wN (x:=(a:Int)+(O:Int)) (n:=a+O) (by omega) (by omega),fT,gK hl' (i:=i) (j:=a+O) (by omega) (by omega)]
  exact⟨rfl,by rw [Go.Sort.size_swp];exact hd⟩
theorem aOm (hl:o+n<=l.length)(hn:n<=1048576)(hd:d.size=n)(hab:a<=b)(hb:b<=n) :
 eQ (wp l o d) o n (a:Int) (b:Int) c=wp l o (breakPatterns d a b):=by
 have hw:W ((b:Int) - (a:Int))=((b - a:Nat):Int):=wN (by omega) (by omega)
 unfold eQ breakPatterns
 simp only []
 rw [hw]
 by_cases h8:b - a≥8
 ·rw [cI (show((b - a:Nat):Int)≥8 by omega),cond_true,if_pos h8]
  have hq:W (Int.tdiv ((b - a:Nat):Int) 4)=(((b - a) / 4:Nat):Int):=by rw [aCs (by omega)];omega
  have hA:W ((a:Int)+(W ((((b - a) / 4:Nat):Int)*2)))=((a+(b - a) / 4*2:Nat):Int):=by
   rw [wN (x:=(((b - a) / 4:Nat):Int)*2) (n:=(b - a) / 4*2) (by omega) (by omega)];exact wN (by omega) (by omega)
  rw [hq,hA,wN (x:=((a+(b - a) / 4*2:Nat):Int) - 1) (n:=a+(b - a) / 4*2 - 1) (by omega) (by omega)]
  have hr:IntKind.wrap .u64 ((b - a:Nat):Int)=(((UInt64.ofNat (b - a)).toNat:Nat):Int):=by
   rw [IntKind.wrap_u64,UInt64.toNat_ofNat_of_lt' (show b - a < 2 ^ 64 by omega)];omega
  rw [hr,show tN ((a:Int)+((b:Int) - (a:Int)) / 4*2+2 - ((a+(b - a) / 4*2 - 1:Nat):Int))+1=4 by omega]
  have s1:=aA2 (a:=a) (b:=b) (l:=l) (l0:=wp l o d) (c:=c) (d:=d) hl hn hd (by omega) hb (i:=a+(b - a) / 4*2 - 1) (by omega) (by omega) (UInt64.ofNat (b - a))
  rw [aI s1.1]
  generalize hst1:breakStep a (b - a) (1 <<< bitsLen (b - a)) (UInt64.ofNat (b - a),d) (a+(b - a) / 4*2 - 1)=st1 at s1 ⊢
  obtain⟨r1,d1⟩:=st1
  have s2:=aA2 (a:=a) (b:=b) (l:=l) (l0:=wp l o d) (c:=c) (d:=d1) hl hn s1.2 (by omega) hb (i:=a+(b - a) / 4*2 - 1+1) (by omega) (by omega) r1
  rw [aI s2.1]
  generalize hst2:breakStep a (b - a) (1 <<< bitsLen (b - a)) (r1,d1) (a+(b - a) / 4*2 - 1+1)=st2 at s2 ⊢
  obtain⟨r2,d2⟩:=st2
  have s3:=aA2 (a:=a) (b:=b) (l:=l) (l0:=wp l o d) (c:=c) (d:=d2) hl hn s2.2 (by omega) hb (i:=a+(b - a) / 4*2 - 1+1+1) (by omega) (by omega) r2
  rw [aI s3.1]
  refine aQ ?_
  simp only [eP,hw,hq,hA]
  rw [dA (by rw [wN (x:=((a+(b - a) / 4*2:Nat):Int)+1) (n:=a+(b - a) / 4*2+1) (by omega) (by omega)];omega),cond_false]
 ·rw [dA (show ¬((b - a:Nat):Int)≥8 by omega),cond_false,if_neg h8]
end
end Go.Proofs.YtkdfcbmcgnaicaaGreat
namespace Go.Proofs.YtkdfcbmcgnaicaaGreat
open Go.Proofs Go.Aw Go.RowKit
set_option maxRecDepth 100000
section
open Go.Sort
theorem aK6 (x y:Int):F97 x y=if x < y then -1 else if y < x then 1 else 0:=by
 have hn:∀z:Int,aAy z=false:=fun z=>by unfold aAy;simp
 unfold F97
 rw [hn,hn,cond_false,cond_false]
 by_cases h:x < y
 ·rw [cI h,if_pos h];rfl
 ·rw [dA h,if_neg h,cond_false]
  by_cases h2:y < x
  ·rw [cI (show x > y from h2),if_pos h2];rfl
  ·rw [dA (show ¬x > y from h2),if_neg h2];rfl
def kk (c:qT)(x:Int):Int:=rK c.1 x c.2
theorem aEi (c:qT)(x y:Int):bK c x y=true↔kk c x < kk c y\/kk c x=kk c y/\x < y:=by
 have e:oY c x y=sS (F97 (kk c x) (kk c y),F97 x y):=rfl
 unfold bK
 rw [decide_eq_true_iff,e,aK6,aK6]
 unfold sS
 by_cases h1:kk c x < kk c y
 ·simp [h1]
 ·by_cases h2:kk c y < kk c x
  ·simp [h1,h2];omega
  ·by_cases h3:x < y
   ·simp [h1,h2,h3];omega
   ·by_cases h4:y < x
    ·simp [h1,h2,h3,h4]
    ·simp [h1,h2,h3,h4]
theorem aK7 (c:qT)(x y:Int):bK c x y=false↔¬(kk c x < kk c y\/kk c x=kk c y/\x < y):=by
 rw [←aEi];simp
theorem mK (c:qT):SWO (bK c) where
 irrefl x:=by rw [aK7];omega
 trans x y z h1 h2:=by rw [aEi] at *;omega
 ntrans x y z h1 h2:=by rw [aK7] at *;omega
theorem aQx (c:qT)(x y:Int)(h1:bK c x y=false)(h2:bK c y x=false):x=y:=by
 rw [aK7] at *;omega
def Al (p:Int->Prop)(d:Array Int):Prop:=∀i,i < d.size->p d[i]!
variable {p : Int → Prop} {d d' : Array Int} {N o n : Nat} {l v : List Int} {c : qT}
theorem Al.swp (h:Al p d) {i j:Nat} (hi:i < d.size)(hj:j < d.size):Al p (Go.Sort.swp d i j):=fun k hk=>by
 rw [Go.Sort.size_swp] at hk
 rw [Go.Sort.swp_get d hi hj k]
 split
 ·exact h i hi
 ·split
  ·exact h j hj
  ·exact h k hk
theorem Al.perm (h:Al p d) {a b:Nat} (hb:b<=d.size)(hp:PermIn a b d d'):Al p d':=fun k hk=>by
 by_cases hin:a<=k/\k < b
 ·exact permIn_all d d' a b p hb hp (fun i h1 h2=>h i (by omega)) k hin.1 hin.2
 ·rw [hp.2.1 k (by omega)];exact h k (by rw [←hp.1];exact hk)
theorem aTp (h:o+d.size<=l.length):InR N (wp l o d)↔(∀x∈l.take o++l.drop (o+d.size),0<=x/\x < (N:Int))/\Al (fun x=>0<=x/\x < (N:Int)) d:=by
 unfold InR wp Al
 constructor
 ·intro hx
  refine⟨fun x hm=>hx x ?_,fun i hi=>hx _ ?_⟩
  ·rcases List.mem_append.1 hm with hm | hm
   ·exact List.mem_append_left _ (List.mem_append_left _ hm)
   ·exact List.mem_append_right _ hm
  ·refine List.mem_append_left _ (List.mem_append_right _ ?_)
   rw [getElem!_pos d i hi]
   exact Array.mem_toList_iff.2 (Array.getElem_mem hi)
 ·rintro ⟨h1,h2⟩ x hm
  rcases List.mem_append.1 hm with hm | hm
  ·rcases List.mem_append.1 hm with hm | hm
   ·exact h1 x (List.mem_append_left _ hm)
   ·obtain⟨i,hi,rfl⟩:=List.getElem_of_mem hm
    have hi':i < d.size:=by simpa using hi
    have:=h2 i hi'
    rw [getElem!_pos d i hi'] at this
    simpa using this
  ·exact h1 x (List.mem_append_right _ hm)
theorem aOn (hl:o+n<=v.length)(hi:InR N v) {f:Array Int->Array Int} (hs:(f (kF v o n)).size=n)(hf:∀p,Al p (kF v o n)->Al p (f (kF v o n))):(wp v o (f (kF v o n))).length=v.length/\InR N (wp v o (f (kF v o n))):=by
 refine⟨aA0 (by omega),?_⟩
 have hz:(kF v o n).size=n:=fJ hl
 have h0:InR N (wp v o (kF v o n)):=by rw [mV hl];exact hi
 rw [aTp (by omega)] at h0 ⊢
 rw [hs];rw [hz] at h0
 exact⟨h0.1,hf _ h0.2⟩
theorem oZ (hl:o+n<=v.length)(hi:InR N v) {a b:Nat} (hb:b<=n)(hp:PermIn a b (kF v o n) d'):(wp v o d').length=v.length/\InR N (wp v o d') :=
 aOn (f:=fun _=>d') hl hi (by rw [hp.1];exact fJ hl) (fun p h=>h.perm (by rw [fJ hl];exact hb) hp)
theorem vK (lt:Int->Int->Bool):∀(j:Nat) (d:Array Int),j < d.size->Al p d->Al p (shiftDown lt j d)
 | 0,d,_,h=>h
 | j+1,d,hj,h=>by
  rw [shiftDown]
  split
  ·exact h
  ·exact vK lt j _ (by rw [Go.Sort.size_swp];omega) (h.swp hj (by omega))
theorem aA3 (lt:Int->Int->Bool)(b:Nat):∀(m j:Nat) (d:Array Int),b - j<=m->b<=d.size->Al p d->Al p (shiftUp lt b j d)
 | 0,j,d,hm,_,h=>by rw [shiftUp,if_neg (by omega)];exact h
 | m+1,j,d,hm,hb,h=>by
  rw [shiftUp]
  split
  ·split
   ·exact h
   ·exact aA3 lt b m _ _ (by omega) (by rw [Go.Sort.size_swp];exact hb) (h.swp (by omega) (by omega))
  ·exact h
theorem sT (lt:Int->Int->Bool)(a b:Nat):∀(s i:Nat) (d:Array Int),i<=b->b<=d.size->Al p d->Al p (partialIns lt a b s i d).1/\(partialIns lt a b s i d).1.size=d.size
 | 0,i,d,_,_,h=>⟨h,rfl⟩
 | s+1,i,d,hi,hb,h=>by
  rw [partialIns_succ]
  have hr:=mW lt d b _ i (Nat.le_refl _) hi
  generalize scanSorted lt d b i=k at hr ⊢
  split
  ·exact⟨h,rfl⟩
  ·split
   ·exact⟨h,rfl⟩
   ·have h1:Al p (Go.Sort.swp d k (k - 1)):=h.swp (by omega) (by omega)
    have h2:Al p (fixDown lt a k (Go.Sort.swp d k (k - 1))):=by
     unfold fixDown
     split
     ·exact vK lt _ _ (by rw [Go.Sort.size_swp];omega) h1
     ·exact h1
    have zz2:(fixDown lt a k (Go.Sort.swp d k (k - 1))).size=d.size:=by rw [vJ,Go.Sort.size_swp]
    have h3:Al p (fixUp lt b k (fixDown lt a k (Go.Sort.swp d k (k - 1)))):=by
     unfold fixUp
     split
     ·exact aA3 lt b _ _ _ (Nat.le_refl _) (by rw [zz2];exact hb) h2
     ·exact h2
    have zz3:(fixUp lt b k (fixDown lt a k (Go.Sort.swp d k (k - 1)))).size=d.size:=by rw [aA1,zz2]
    have ih:=sT lt a b s k _ hr.2 (by rw [zz3];exact hb) h3
    exact⟨ih.1,by rw [ih.2,zz3]⟩
theorem aK8 (lt:Int->Int->Bool) {a b q:Nat} (h1:a<=q)(h2:q < b)(hb:b<=d.size):a < (partitionEqual lt d a b q).1/\(partitionEqual lt d a b q).1<=b/\PermIn a b d (partitionEqual lt d a b q).2:=by
 unfold partitionEqual
 obtain⟨r1,r2,r3,_⟩:=partEqLoop_spec lt a b _ (a+1) (b - 1) (Go.Sort.swp d a q) (Nat.le_refl _) (lss a) (by omega) (by omega) (by rw [Go.Sort.size_swp];exact hb) (fun t h1 h2=>by omega) (fun t h1 h2=>by omega)
 exact⟨r1,r2,permIn_trans _ _ _ _ _ (swp_permIn d a b a q (Nat.le_refl _) (by omega) h1 h2 hb) (permIn_mono _ _ (a+1) b a b (Nat.le_succ a) (Nat.le_refl _) (by rw [Go.Sort.size_swp];exact hb) r3)⟩
variable {a b q : Int}
theorem aU9 (hw:o+n<=v.length/\v.length<=1048576)(hi:InR N v)(h:0<=a/\a<=b/\b<=(n:Int)) :
 (gY v o n a b c).length=v.length/\InR N (gY v o n a b c):=by
 obtain⟨a,rfl⟩:∃k:Nat,a=k:=⟨a.toNat,by omega⟩
 obtain⟨b,rfl⟩:∃k:Nat,b=k:=⟨b.toNat,by omega⟩
 have hz:=fJ hw.1
 have e:=aN8 (l:=v) (c:=c) (d:=kF v o n) hw.1 (by omega) (a:=a) (b:=b) (by omega) (by omega) hz
 rw [mV hw.1] at e
 rw [e]
 exact oZ hw.1 hi (a:=a) (b:=b) (by omega) (insertionSort_holds (mK c) _ a b (by omega) (by omega)).1
theorem aVa (hw:o+n<=v.length/\v.length<=1048576)(hi:InR N v)(h:0<=a/\a<=b/\b<=(n:Int)) :
 (hH v o n a b c).length=v.length/\InR N (hH v o n a b c):=by
 obtain⟨a,rfl⟩:∃k:Nat,a=k:=⟨a.toNat,by omega⟩
 obtain⟨b,rfl⟩:∃k:Nat,b=k:=⟨b.toNat,by omega⟩
 have hz:=fJ hw.1
 have e:=aOc (l:=v) (c:=c) (d:=kF v o n) hw.1 (by omega) (a:=a) (b:=b) (by omega) (by omega) hz
 rw [mV hw.1] at e
 rw [e]
 exact oZ hw.1 hi (a:=a) (b:=b) (by omega) (heapSort_holds (mK c) _ a b (by omega) (by omega)).1
theorem aSn (hw:o+n<=v.length/\v.length<=1048576)(hi:InR N v)(h:0<=a/\a<=b/\b<=(n:Int)) :
 (eQ v o n a b c).length=v.length/\InR N (eQ v o n a b c):=by
 obtain⟨a,rfl⟩:∃k:Nat,a=k:=⟨a.toNat,by omega⟩
 obtain⟨b,rfl⟩:∃k:Nat,b=k:=⟨b.toNat,by omega⟩
 have hz:=fJ hw.1
 have e:=aOm (l:=v) (c:=c) (d:=kF v o n) hw.1 (by omega) hz (a:=a) (b:=b) (by omega) (by omega)
 rw [mV hw.1] at e
 rw [e]
 exact oZ hw.1 hi (a:=a) (b:=b) (by omega) (breakPatterns_holds _ a b (by omega) (by omega))
theorem aSo (hw:o+n<=v.length/\v.length<=1048576)(hi:InR N v)(h:0<=a/\a < b/\b<=(n:Int)) :
 (eY v o n a b c).length=v.length/\InR N (eY v o n a b c):=by
 obtain⟨a,rfl⟩:∃k:Nat,a=k:=⟨a.toNat,by omega⟩
 obtain⟨b,rfl⟩:∃k:Nat,b=k:=⟨b.toNat,by omega⟩
 have hz:=fJ hw.1
 have e:=aN9 (l:=v) (c:=c) (d:=kF v o n) hw.1 (by omega) (a:=a) (b:=b) (by omega) (by omega) hz
 rw [mV hw.1] at e
 rw [e]
 exact oZ hw.1 hi (a:=a) (b:=b) (by omega) (reverseRange_holds _ a b (by omega) (by omega))
theorem aSp (hw:o+n<=v.length/\v.length<=1048576)(h:0<=a/\a < b/\b<=(n:Int)) :
 a<=(bD v o n a b c).1/\(bD v o n a b c).1 < b:=by
 obtain⟨a,rfl⟩:∃k:Nat,a=k:=⟨a.toNat,by omega⟩
 obtain⟨b,rfl⟩:∃k:Nat,b=k:=⟨b.toNat,by omega⟩
 have hz:=fJ hw.1
 have e:=aOk (l:=v) (c:=c) (d:=kF v o n) hw.1 (by omega) hz (a:=a) (b:=b) (by omega) (by omega)
 rw [mV hw.1] at e
 rw [e]
 have:=choosePivot_holds (bK c) (kF v o n) a b (by omega)
 dsimp only
 omega
theorem aSq (hw:o+n<=v.length/\v.length<=1048576)(hi:InR N v)(h:0<=a/\a < b/\b<=(n:Int)) :
 (cS v o n a b c).2.length=v.length/\InR N (cS v o n a b c).2:=by
 obtain⟨a,rfl⟩:∃k:Nat,a=k:=⟨a.toNat,by omega⟩
 obtain⟨b,rfl⟩:∃k:Nat,b=k:=⟨b.toNat,by omega⟩
 have hz:=fJ hw.1
 have e:=aOg (l:=v) (c:=c) (d:=kF v o n) hw.1 (by omega) hz (a:=a) (b:=b) (by omega) (by omega)
 rw [mV hw.1] at e
 rw [e.1]
 exact aOn (f:=fun d=>(partialInsertionSort (bK c) d a b).1) hw.1 hi e.2 (fun p hp=>(sT (bK c) a b 5 (a+1) _ (by omega) (by omega) hp).1)
theorem aSr (hw:o+n<=v.length/\v.length<=1048576)(hi:InR N v)(h:0<=a/\a<=q/\q < b/\b<=(n:Int)) :
 (a<=(aM v o n a b q c).1/\(aM v o n a b q c).1 < b)/\(aM v o n a b q c).2.2.length=v.length/\InR N (aM v o n a b q c).2.2:=by
 obtain⟨a,rfl⟩:∃k:Nat,a=k:=⟨a.toNat,by omega⟩
 obtain⟨b,rfl⟩:∃k:Nat,b=k:=⟨b.toNat,by omega⟩
 obtain⟨q,rfl⟩:∃k:Nat,q=k:=⟨q.toNat,by omega⟩
 have hz:=fJ hw.1
 have e:=aOd (l:=v) (c:=c) (d:=kF v o n) hw.1 (by omega) hz (a:=a) (b:=b) (p:=q) (by omega) (by omega) (by omega)
 rw [mV hw.1] at e
 rw [e]
 obtain⟨r1,r2,r3,_⟩:=partition_holds (lt:=bK c) (mK c) (kF v o n) a b q (by omega) (by omega) (by omega)
 exact⟨by dsimp only;omega,oZ hw.1 hi (a:=a) (b:=b) (by omega) r3⟩
theorem aSs (hw:o+n<=v.length/\v.length<=1048576)(hi:InR N v)(h:0<=a/\a<=q/\q < b/\b<=(n:Int)) :
 (a < (dC v o n a b q c).1/\(dC v o n a b q c).1<=b)/\(dC v o n a b q c).2.length=v.length/\InR N (dC v o n a b q c).2:=by
 obtain⟨a,rfl⟩:∃k:Nat,a=k:=⟨a.toNat,by omega⟩
 obtain⟨b,rfl⟩:∃k:Nat,b=k:=⟨b.toNat,by omega⟩
 obtain⟨q,rfl⟩:∃k:Nat,q=k:=⟨q.toNat,by omega⟩
 have hz:=fJ hw.1
 have e:=aOe (l:=v) (c:=c) (d:=kF v o n) hw.1 (by omega) hz (a:=a) (b:=b) (p:=q) (by omega) (by omega) (by omega)
 rw [mV hw.1] at e
 rw [e]
 obtain⟨r1,r2,r3⟩:=aK8 (d:=kF v o n) (bK c) (a:=a) (b:=b) (q:=q) (by omega) (by omega) (by omega)
 exact⟨by dsimp only;omega,oZ hw.1 hi (a:=a) (b:=b) (by omega) r3⟩
end
end Go.Proofs.YtkdfcbmcgnaicaaGreat
namespace Go.Proofs.YtkdfcbmcgnaicaaGreat
open Go.Proofs Go.Aw Go.RowKit
set_option maxRecDepth 100000
noncomputable def oJ:Code:=(cC [1,1,0,0,0,1,1,1,1,1,1,1,1,0] [0] (aL Tryz.f93)).1
noncomputable def oK (m0:Nat):List K:=(cC [1,1,0,0,0,1,1,1,1,1,1,1,1,0] [m0] (aL Tryz.f93)).2
def mX (nr:Nat)(a0:List Int)(a0_o:Nat)(a0_n:Nat)(a1:Int)(a2:Int)(a3:Int)(a4:eK×Int)(v31c:List SV)(v31n:Nat)(v32 v33 v34 v35 v36:Int):LS:=⟨gO 148 [(0,(.s 0 (0+a0_o*1) a0_n 1)),(1,(iv v32)),(2,(iv v33)),(3,(iv v34)),(4,(.f 1000075 [(.a [(.p 1 0),(iv a4.2)])])),(12,(iv v35)),(13,(iv v36))],[(.live true true v31c),(.live false false [(.s 2 0 a4.1.1.length 10),(iv a4.1.2.1),(.s 0 0 v31n 1),(.s 3 0 a4.1.2.2.2.length 8)]),(.live false true (flat dI a4.1.1)),(.live false true (flat bZ a4.1.2.2.2))]⟩
def dV (rr:(List Int)->(Nat)->(Nat)->(Int)->(Int)->(Int)->TyS->List Int)(a0:List Int)(a0_o:Nat)(a0_n:Nat)(a1:Int)(a2:Int)(a3:Int)(a4:eK×Int):List Int×Int×Int×Zt->(List Int×Int×Int×Int×Bool×Bool)⊕(List Int)
 | (v31,v32,v33,v34,v35,v36) =>
  (bif (decide (((W ((aM v31 a0_o a0_n v32 v33 v36 ((a4.1.1,a4.1.2.1,(v31,a4.1.2.2.2)),a4.2)).1 - v32)):Int) < (W (v33 - (aM v31 a0_o a0_n v32 v33 v36 ((a4.1.1,a4.1.2.1,(v31,a4.1.2.2.2)),a4.2)).1)))) then
   (.inl ((rr ((aM v31 a0_o a0_n v32 v33 v36 ((a4.1.1,a4.1.2.1,(v31,a4.1.2.2.2)),a4.2)).2.2) a0_o a0_n v32 (aM v31 a0_o a0_n v32 v33 v36 ((a4.1.1,a4.1.2.1,(v31,a4.1.2.2.2)),a4.2)).1 v34 ((a4.1.1,a4.1.2.1,((aM v31 a0_o a0_n v32 v33 v36 ((a4.1.1,a4.1.2.1,(v31,a4.1.2.2.2)),a4.2)).2.2,a4.1.2.2.2)),a4.2)),(W ((aM v31 a0_o a0_n v32 v33 v36 ((a4.1.1,a4.1.2.1,(v31,a4.1.2.2.2)),a4.2)).1+1)),v33,v34,(decide (((W ((aM v31 a0_o a0_n v32 v33 v36 ((a4.1.1,a4.1.2.1,(v31,a4.1.2.2.2)),a4.2)).1 - v32)):Int)≥(W (Int.tdiv v35 8)))),(aM v31 a0_o a0_n v32 v33 v36 ((a4.1.1,a4.1.2.1,(v31,a4.1.2.2.2)),a4.2)).2.1))
  else
   (.inl ((rr ((aM v31 a0_o a0_n v32 v33 v36 ((a4.1.1,a4.1.2.1,(v31,a4.1.2.2.2)),a4.2)).2.2) a0_o a0_n (W ((aM v31 a0_o a0_n v32 v33 v36 ((a4.1.1,a4.1.2.1,(v31,a4.1.2.2.2)),a4.2)).1+1)) v33 v34 ((a4.1.1,a4.1.2.1,((aM v31 a0_o a0_n v32 v33 v36 ((a4.1.1,a4.1.2.1,(v31,a4.1.2.2.2)),a4.2)).2.2,a4.1.2.2.2)),a4.2)),v32,(aM v31 a0_o a0_n v32 v33 v36 ((a4.1.1,a4.1.2.1,(v31,a4.1.2.2.2)),a4.2)).1,v34,(decide (((W (v33 - (aM v31 a0_o a0_n v32 v33 v36 ((a4.1.1,a4.1.2.1,(v31,a4.1.2.2.2)),a4.2)).1)):Int)≥(W (Int.tdiv v35 8)))),(aM v31 a0_o a0_n v32 v33 v36 ((a4.1.1,a4.1.2.1,(v31,a4.1.2.2.2)),a4.2)).2.1)))
noncomputable def jD:Code:=(cC [1,1,0,0,0,1,1,1,1,1,1,1,0,0] [0] (aL Tryz.f93)).1
noncomputable def jE (m0:Nat):List K:=(cC [1,1,0,0,0,1,1,1,1,1,1,1,0,0] [m0] (aL Tryz.f93)).2
def iK (nr:Nat)(a0:List Int)(a0_o:Nat)(a0_n:Nat)(a1:Int)(a2:Int)(a3:Int)(a4:eK×Int)(v23c:List SV)(v23n:Nat)(v24 v25 v26:Int)(v27:Bool)(v28:Bool)(v29 v30:Int):LS:=⟨gO 148 [(0,(.s 0 (0+a0_o*1) a0_n 1)),(1,(iv v24)),(2,(iv v25)),(3,(iv v26)),(4,(.f 1000075 [(.a [(.p 1 0),(iv a4.2)])])),(10,(.v (.bool v27))),(11,(.v (.bool v28))),(12,(iv v29)),(13,(iv v30))],[(.live true true v23c),(.live false false [(.s 2 0 a4.1.1.length 10),(iv a4.1.2.1),(.s 0 0 v23n 1),(.s 3 0 a4.1.2.2.2.length 8)]),(.live false true (flat dI a4.1.1)),(.live false true (flat bZ a4.1.2.2.2))]⟩
def bO (rr:(List Int)->(Nat)->(Nat)->(Int)->(Int)->(Int)->TyS->List Int)(a0:List Int)(a0_o:Nat)(a0_n:Nat)(a1:Int)(a2:Int)(a3:Int)(a4:eK×Int):List Int×Int×Int×Int×Bool×Bool×Int×Int->(List Int×Int×Int×Int×Bool×Bool)⊕(List Int)
 | (v23,v24,v25,v26,v27,v28,v29,v30) =>
  (bif (decide ((v24:Int) > 0)) then
   (bif (!(decide (((oY ((a4.1.1,a4.1.2.1,(v23,a4.1.2.2.2)),a4.2) (v23.getD (a0_o+tN (W (v24 - 1))) dF) (v23.getD (a0_o+tN v30) dF)):Int) < 0))) then
    (.inl ((dC v23 a0_o a0_n v24 v25 v30 ((a4.1.1,a4.1.2.1,(v23,a4.1.2.2.2)),a4.2)).2,(dC v23 a0_o a0_n v24 v25 v30 ((a4.1.1,a4.1.2.1,(v23,a4.1.2.2.2)),a4.2)).1,v25,v26,v27,v28))
   else
    (dV rr a0 a0_o a0_n a1 a2 a3 a4 (v23,v24,v25,v26,v29,v30)))
  else
   (dV rr a0 a0_o a0_n a1 a2 a3 a4 (v23,v24,v25,v26,v29,v30)))
noncomputable def oL:Code:=(cC [1,1,0,0,0,1,1,1,1,1,1,0,0] [0] (aL Tryz.f93)).1
noncomputable def oM (m0:Nat):List K:=(cC [1,1,0,0,0,1,1,1,1,1,1,0,0] [m0] (aL Tryz.f93)).2
def mY (nr:Nat)(a0:List Int)(a0_o:Nat)(a0_n:Nat)(a1:Int)(a2:Int)(a3:Int)(a4:eK×Int)(v14c:List SV)(v14n:Nat)(v15 v16 v17:Int)(v18:Bool)(v19:Bool)(v20 v21 v22:Int):LS:=⟨gO 148 [(0,(.s 0 (0+a0_o*1) a0_n 1)),(1,(iv v15)),(2,(iv v16)),(3,(iv v17)),(4,(.f 1000075 [(.a [(.p 1 0),(iv a4.2)])])),(10,(.v (.bool v18))),(11,(.v (.bool v19))),(12,(iv v20)),(13,(iv v21)),(14,(iv v22))],[(.live true true v14c),(.live false false [(.s 2 0 a4.1.1.length 10),(iv a4.1.2.1),(.s 0 0 v14n 1),(.s 3 0 a4.1.2.2.2.length 8)]),(.live false true (flat dI a4.1.1)),(.live false true (flat bZ a4.1.2.2.2))]⟩
def bX (rr:(List Int)->(Nat)->(Nat)->(Int)->(Int)->(Int)->TyS->List Int)(a0:List Int)(a0_o:Nat)(a0_n:Nat)(a1:Int)(a2:Int)(a3:Int)(a4:eK×Int):List Int×Int×Int×Int×Bool×Bool×Zt->(List Int×Int×Int×Int×Bool×Bool)⊕(List Int)
 | (v14,v15,v16,v17,v18,v19,v20,v21,v22) =>
  (bif v18 then
   (bif v19 then
    (bif ((v22:Int) == 1) then
     (bif (cS v14 a0_o a0_n v15 v16 ((a4.1.1,a4.1.2.1,(v14,a4.1.2.2.2)),a4.2)).1 then
      (.inr (cS v14 a0_o a0_n v15 v16 ((a4.1.1,a4.1.2.1,(v14,a4.1.2.2.2)),a4.2)).2)
     else
      (bO rr a0 a0_o a0_n a1 a2 a3 a4 ((cS v14 a0_o a0_n v15 v16 ((a4.1.1,a4.1.2.1,(v14,a4.1.2.2.2)),a4.2)).2,v15,v16,v17,v18,v19,v20,v21)))
    else
     (bO rr a0 a0_o a0_n a1 a2 a3 a4 (v14,v15,v16,v17,v18,v19,v20,v21)))
   else
    (bO rr a0 a0_o a0_n a1 a2 a3 a4 (v14,v15,v16,v17,v18,v19,v20,v21)))
  else
   (bO rr a0 a0_o a0_n a1 a2 a3 a4 (v14,v15,v16,v17,v18,v19,v20,v21)))
noncomputable def oN:Code:=(cC [1,1,0,0,0,1,1,1,1,0] [0] (aL Tryz.f93)).1
noncomputable def oO (m0:Nat):List K:=(cC [1,1,0,0,0,1,1,1,1,0] [m0] (aL Tryz.f93)).2
def mZ (nr:Nat)(a0:List Int)(a0_o:Nat)(a0_n:Nat)(a1:Int)(a2:Int)(a3:Int)(a4:eK×Int)(v7c:List SV)(v7n:Nat)(v8 v9 v10:Int)(v11:Bool)(v12:Bool)(v13:Int):LS:=⟨gO 148 [(0,(.s 0 (0+a0_o*1) a0_n 1)),(1,(iv v8)),(2,(iv v9)),(3,(iv v10)),(4,(.f 1000075 [(.a [(.p 1 0),(iv a4.2)])])),(10,(.v (.bool v11))),(11,(.v (.bool v12))),(12,(iv v13))],[(.live true true v7c),(.live false false [(.s 2 0 a4.1.1.length 10),(iv a4.1.2.1),(.s 0 0 v7n 1),(.s 3 0 a4.1.2.2.2.length 8)]),(.live false true (flat dI a4.1.1)),(.live false true (flat bZ a4.1.2.2.2))]⟩
def dW (rr:(List Int)->(Nat)->(Nat)->(Int)->(Int)->(Int)->TyS->List Int)(a0:List Int)(a0_o:Nat)(a0_n:Nat)(a1:Int)(a2:Int)(a3:Int)(a4:eK×Int):List Int×Int×Int×Int×Bool×Bool×Int->(List Int×Int×Int×Int×Bool×Bool)⊕(List Int)
 | (v7,v8,v9,v10,v11,v12,v13) =>
  (bif (((bD v7 a0_o a0_n v8 v9 ((a4.1.1,a4.1.2.1,(v7,a4.1.2.2.2)),a4.2)).2:Int) == 2) then
   (bX rr a0 a0_o a0_n a1 a2 a3 a4 ((eY v7 a0_o a0_n v8 v9 ((a4.1.1,a4.1.2.1,(v7,a4.1.2.2.2)),a4.2)),v8,v9,v10,v11,v12,v13,(W ((W (v9 - 1)) - (W ((bD v7 a0_o a0_n v8 v9 ((a4.1.1,a4.1.2.1,(v7,a4.1.2.2.2)),a4.2)).1 - v8)))),1))
  else
   (bX rr a0 a0_o a0_n a1 a2 a3 a4 (v7,v8,v9,v10,v11,v12,v13,(bD v7 a0_o a0_n v8 v9 ((a4.1.1,a4.1.2.1,(v7,a4.1.2.2.2)),a4.2)).1,(bD v7 a0_o a0_n v8 v9 ((a4.1.1,a4.1.2.1,(v7,a4.1.2.2.2)),a4.2)).2)))
noncomputable def gD:Code:=(aN [1,1] [] (aL Tryz.f93) []).1
noncomputable def gE:List K:=(aN [1,1] [] (aL Tryz.f93) []).2
def fN (nr:Nat)(a0:List Int)(a0_o:Nat)(a0_n:Nat)(a1:Int)(a2:Int)(a3:Int)(a4:eK×Int)(v1c:List SV)(v1n:Nat)(v2 v3 v4:Int)(v5:Bool)(v6:Bool):LS:=⟨gO 148 [(0,(.s 0 (0+a0_o*1) a0_n 1)),(1,(iv v2)),(2,(iv v3)),(3,(iv v4)),(4,(.f 1000075 [(.a [(.p 1 0),(iv a4.2)])])),(10,(.v (.bool v5))),(11,(.v (.bool v6)))],[(.live true true v1c),(.live false false [(.s 2 0 a4.1.1.length 10),(iv a4.1.2.1),(.s 0 0 v1n 1),(.s 3 0 a4.1.2.2.2.length 8)]),(.live false true (flat dI a4.1.1)),(.live false true (flat bZ a4.1.2.2.2))]⟩
def bL (rr:(List Int)->(Nat)->(Nat)->(Int)->(Int)->(Int)->TyS->List Int)(a0:List Int)(a0_o:Nat)(a0_n:Nat)(a1:Int)(a2:Int)(a3:Int)(a4:eK×Int):List Int×Int×Int×Int×Bool×Bool->(List Int×Int×Int×Int×Bool×Bool)⊕(List Int)
 | (v1,v2,v3,v4,v5,v6) =>
  (bif (decide (((W (v3 - v2)):Int)<=12)) then
   (.inr (gY v1 a0_o a0_n v2 v3 ((a4.1.1,a4.1.2.1,(v1,a4.1.2.2.2)),a4.2)))
  else
   (bif ((v4:Int) == 0) then
    (.inr (hH v1 a0_o a0_n v2 v3 ((a4.1.1,a4.1.2.1,(v1,a4.1.2.2.2)),a4.2)))
   else
    (bif (!v5) then
     (dW rr a0 a0_o a0_n a1 a2 a3 a4 ((eQ v1 a0_o a0_n v2 v3 ((a4.1.1,a4.1.2.1,(v1,a4.1.2.2.2)),a4.2)),v2,v3,(W (v4 - 1)),v5,v6,(W (v3 - v2))))
    else
     (dW rr a0 a0_o a0_n a1 a2 a3 a4 (v1,v2,v3,v4,v5,v6,(W (v3 - v2)))))))
def aV:Nat->(List Int)->(Nat)->(Nat)->(Int)->(Int)->(Int)->TyS->List Int
 | 0,_,_,_,_,_,_,_=>dF
 | nr+1,a0,a0_o,a0_n,a1,a2,a3,a4 =>
 (aH (bL (aV nr) a0 a0_o a0_n a1 a2 a3 a4) (tN (a2 - a1)+1) (a0,a1,a2,a3,true,true))
def sF (a0:List Int)(a0_o:Nat)(a0_n:Nat)(a1:Int)(a2:Int)(a3:Int)(a4:eK×Int):List Int:=aV (tN (a2 - a1)+1) a0 a0_o a0_n a1 a2 a3 a4
section
variable {N o n L : Nat} {v : List Int} {a b lim lo hi : Int} {c : qT}
def PqP (L N:Nat)(lo hi:Int)(m:Int):((List Int×Int×Int×Int×Bool×Bool)⊕List Int)->Prop
 | .inl s=>s.1.length=L/\InR N s.1/\lo<=s.2.1/\s.2.1<=s.2.2.1/\s.2.2.1<=hi/\s.2.2.1 - s.2.1 < m
 | .inr v=>v.length=L/\InR N v
theorem aCt {σ ρ:Type} [Inhabited ρ] {S:σ->σ⊕ρ} (P:σ->Prop)(Q:ρ->Prop)(m:σ->Nat)(h:∀s,P s->match S s with | .inl t=>P t/\m t < m s | .inr r=>Q r):∀(k:Nat) (s:σ),P s->m s < k->Q (aH S k s)
 | 0,s,_,hk=>absurd hk (eL _)
 | k+1,s,hs,hk=>by
  have h1:=h s hs
  cases e:S s with
  | inl t=>rw [e] at h1;rw [aI e];exact aCt P Q m h k t h1.1 (by have:=h1.2;omega)
  | inr r=>rw [e] at h1;rw [aQ e];exact h1
variable {nr : Nat} {rr : List Int → Nat → Nat → Int → Int → Int → qT → List Int}
 (Hr:∀(v:List Int) (o n:Nat) (a b lim:Int) (c:qT),(o+n<=v.length/\v.length<=1048576)->InR N v->(0<=a/\a<=b/\b<=(n:Int))->tN (b - a) < nr->(rr v o n a b lim c).length=v.length/\InR N (rr v o n a b lim c))
include Hr
theorem aWm {a0:List Int} {a1 a2 a3 ln q:Int} (hw:o+n<=v.length/\v.length<=1048576)(hI:InR N v)(h:0<=a/\lo<=a/\a<=q/\q < b/\b<=hi/\b<=(n:Int))(hm:tN (b - a)<=nr) :
 PqP v.length N lo hi (b - a) (dV rr a0 o n a1 a2 a3 c (v,a,b,lim,ln,q)):=by
 obtain⟨h1,h2,h3⟩:=aSr (N:=N) (v:=v) (o:=o) (n:=n) (a:=a) (b:=b) (q:=q) (c:=((c.1.1,c.1.2.1,(v,c.1.2.2.2)),c.2)) hw hI (by omega)
 have hw1:=aR (n:=(aM v o n a b q ((c.1.1,c.1.2.1,(v,c.1.2.2.2)),c.2)).1+1) (by omega) (by omega)
 simp only [dV]
 rw [Bool.cond_eq_ite]
 split
 ·have hr:=Hr (aM v o n a b q ((c.1.1,c.1.2.1,(v,c.1.2.2.2)),c.2)).2.2 o n a (aM v o n a b q ((c.1.1,c.1.2.1,(v,c.1.2.2.2)),c.2)).1 lim ((c.1.1,c.1.2.1,((aM v o n a b q ((c.1.1,c.1.2.1,(v,c.1.2.2.2)),c.2)).2.2,c.1.2.2.2)),c.2) (by omega) h3 (by omega) (by omega)
  exact⟨hr.1.trans h2,hr.2,by dsimp only;omega,by dsimp only;omega,by dsimp only;omega,by dsimp only;omega⟩
 ·have hr:=Hr (aM v o n a b q ((c.1.1,c.1.2.1,(v,c.1.2.2.2)),c.2)).2.2 o n (W ((aM v o n a b q ((c.1.1,c.1.2.1,(v,c.1.2.2.2)),c.2)).1+1)) b lim ((c.1.1,c.1.2.1,((aM v o n a b q ((c.1.1,c.1.2.1,(v,c.1.2.2.2)),c.2)).2.2,c.1.2.2.2)),c.2) (by omega) h3 (by omega) (by omega)
  exact⟨hr.1.trans h2,hr.2,by dsimp only;omega,by dsimp only;omega,by dsimp only;omega,by dsimp only;omega⟩
theorem aVb {a0:List Int} {a1 a2 a3 ln q:Int} {b1 b2:Bool} (hw:o+n<=v.length/\v.length<=1048576)(hI:InR N v)(h:0<=a/\lo<=a/\a<=q/\q < b/\b<=hi/\b<=(n:Int))(hm:tN (b - a)<=nr) :
 PqP v.length N lo hi (b - a) (bO rr a0 o n a1 a2 a3 c (v,a,b,lim,b1,b2,ln,q)):=by
 have h20:=aWm Hr (a0:=a0) (a1:=a1) (a2:=a2) (a3:=a3) (ln:=ln) (q:=q) (lim:=lim) (c:=c) hw hI h hm
 simp only [bO]
 rw [Bool.cond_eq_ite]
 split
 ·rw [Bool.cond_eq_ite]
  split
  ·obtain⟨h1,h2,h3⟩:=aSs (N:=N) (v:=v) (o:=o) (n:=n) (a:=a) (b:=b) (q:=q) (c:=((c.1.1,c.1.2.1,(v,c.1.2.2.2)),c.2)) hw hI (by omega)
   exact⟨h2,h3,by dsimp only;omega,by dsimp only;omega,by dsimp only;omega,by dsimp only;omega⟩
  ·exact h20
 ·exact h20
theorem aVc {a0:List Int} {a1 a2 a3 ln q hn:Int} {b1 b2:Bool} (hw:o+n<=v.length/\v.length<=1048576)(hI:InR N v)(h:0<=a/\lo<=a/\a<=q/\q < b/\b<=hi/\b<=(n:Int))(hm:tN (b - a)<=nr) :
 PqP v.length N lo hi (b - a) (bX rr a0 o n a1 a2 a3 c (v,a,b,lim,b1,b2,ln,q,hn)):=by
 have h17:=aVb Hr (a0:=a0) (a1:=a1) (a2:=a2) (a3:=a3) (ln:=ln) (q:=q) (lim:=lim) (c:=c) (b1:=b1) (b2:=b2) hw hI h hm
 obtain⟨h1,h2⟩:=aSq (N:=N) (v:=v) (o:=o) (n:=n) (a:=a) (b:=b) (c:=((c.1.1,c.1.2.1,(v,c.1.2.2.2)),c.2)) hw hI (by omega)
 have g17:=aVb Hr (o:=o) (n:=n) (a:=a) (b:=b) (lo:=lo) (hi:=hi) (v:=(cS v o n a b ((c.1.1,c.1.2.1,(v,c.1.2.2.2)),c.2)).2) (a0:=a0) (a1:=a1) (a2:=a2) (a3:=a3) (ln:=ln) (q:=q) (lim:=lim) (c:=c) (b1:=b1) (b2:=b2) (by omega) h2 h hm
 rw [h1] at g17
 simp only [bX]
 cases b1 with
 | false=>exact h17
 | true =>
  cases b2 with
  | false=>exact h17
  | true =>
   rw [cond_true,cond_true,Bool.cond_eq_ite]
   split
   ·rw [Bool.cond_eq_ite]
    split
    ·exact⟨h1,h2⟩
    ·exact g17
   ·exact h17
theorem aVd {a0:List Int} {a1 a2 a3 ln:Int} {b1 b2:Bool} (hw:o+n<=v.length/\v.length<=1048576)(hI:InR N v)(h:0<=a/\lo<=a/\a < b/\b<=hi/\b<=(n:Int))(hm:tN (b - a)<=nr) :
 PqP v.length N lo hi (b - a) (dW rr a0 o n a1 a2 a3 c (v,a,b,lim,b1,b2,ln)):=by
 have hc:=aSp (v:=v) (o:=o) (n:=n) (a:=a) (b:=b) (c:=((c.1.1,c.1.2.1,(v,c.1.2.2.2)),c.2)) hw (by omega)
 obtain⟨h1,h2⟩:=aSo (N:=N) (v:=v) (o:=o) (n:=n) (a:=a) (b:=b) (c:=((c.1.1,c.1.2.1,(v,c.1.2.2.2)),c.2)) hw hI (by omega)
 have e1:W ((W (b - 1)) - (W ((bD v o n a b ((c.1.1,c.1.2.1,(v,c.1.2.2.2)),c.2)).1 - a)))=b - 1 - ((bD v o n a b ((c.1.1,c.1.2.1,(v,c.1.2.2.2)),c.2)).1 - a):=by
  rw [aR (n:=b - 1) (by omega) (by omega),aR (n:=(bD v o n a b ((c.1.1,c.1.2.1,(v,c.1.2.2.2)),c.2)).1 - a) (by omega) (by omega)]
  exact aR (by omega) (by omega)
 simp only [dW,e1]
 rw [Bool.cond_eq_ite]
 split
 ·have g:=aVc Hr (v:=eY v o n a b ((c.1.1,c.1.2.1,(v,c.1.2.2.2)),c.2)) (a0:=a0) (a1:=a1) (a2:=a2) (a3:=a3) (ln:=ln) (q:=b - 1 - ((bD v o n a b ((c.1.1,c.1.2.1,(v,c.1.2.2.2)),c.2)).1 - a)) (hn:=1) (lim:=lim) (c:=c) (b1:=b1) (b2:=b2) (lo:=lo) (hi:=hi) (a:=a) (b:=b) (o:=o) (n:=n) (by omega) h2 (by omega) hm
  rw [h1] at g
  exact g
 ·exact aVc Hr hw hI (by omega) hm
theorem pq0 {a0:List Int} {a1 a2 a3:Int} {b1 b2:Bool} (hw:o+n<=v.length/\v.length<=1048576)(hI:InR N v)(h:0<=a/\lo<=a/\a<=b/\b<=hi/\b<=(n:Int))(hm:tN (b - a)<=nr) :
 PqP v.length N lo hi (b - a) (bL rr a0 o n a1 a2 a3 c (v,a,b,lim,b1,b2)):=by
 have hW:=aR (n:=b - a) (by omega) (by omega)
 simp only [bL]
 by_cases h12:W (b - a)<=12
 ·rw [cI h12,cond_true]
  exact aU9 hw hI (by omega)
 ·rw [dA h12,cond_false,Bool.cond_eq_ite]
  split
  ·exact aVa hw hI (by omega)
  ·cases b1 with
   | true=>exact aVd Hr hw hI (by omega) hm
   | false =>
    obtain⟨h1,h2⟩:=aSn (N:=N) (v:=v) (o:=o) (n:=n) (a:=a) (b:=b) (c:=((c.1.1,c.1.2.1,(v,c.1.2.2.2)),c.2)) hw hI (by omega)
    have g:=aVd Hr (v:=eQ v o n a b ((c.1.1,c.1.2.1,(v,c.1.2.2.2)),c.2)) (a0:=a0) (a1:=a1) (a2:=a2) (a3:=a3) (ln:=W (b - a)) (lim:=W (lim - 1)) (c:=c) (b1:=false) (b2:=b2) (lo:=lo) (hi:=hi) (a:=a) (b:=b) (o:=o) (n:=n) (by omega) h2 (by omega) hm
    rw [h1] at g
    exact g
end
theorem yZ:∀(nr:Nat) {N o n:Nat} {v:List Int} {a b lim:Int} {c:qT},(o+n<=v.length/\v.length<=1048576)->InR N v->(0<=a/\a<=b/\b<=(n:Int))->tN (b - a) < nr ->
 (aV nr v o n a b lim c).length=v.length/\InR N (aV nr v o n a b lim c)
 | 0,_,_,_,_,_,_,_,_,_,_,_,h=>absurd h (eL _)
 | nr+1,N,o,n,v,a,b,lim,c,hw,hI,h,hm=>by
  have Hr:=fun(v:List Int) (o n:Nat) (a b lim:Int) (c:qT) h1 h2 h3 h4=>yZ nr (N:=N) (v:=v) (o:=o) (n:=n) (a:=a) (b:=b) (lim:=lim) (c:=c) h1 h2 h3 h4
  unfold aV
  refine aCt (fun s=>s.1.length=v.length/\InR N s.1/\a<=s.2.1/\s.2.1<=s.2.2.1/\s.2.2.1<=b) (fun r=>r.length=v.length/\InR N r) (fun s=>tN (s.2.2.1 - s.2.1)) (fun s hs=>?_) _ _ ⟨rfl,hI,by dsimp only;omega,by dsimp only;omega,by dsimp only;omega⟩ (by dsimp only;omega)
  obtain⟨s1,s2,s3,s4,s5,s6⟩:=s
  dsimp only at hs ⊢
  have g:=pq0 (N:=N) (nr:=nr) Hr (v:=s1) (o:=o) (n:=n) (a:=s2) (b:=s3) (lim:=s4) (c:=c) (lo:=a) (hi:=b) (a0:=v) (a1:=a) (a2:=b) (a3:=lim) (b1:=s5) (b2:=s6) (by omega) hs.2.1 (by omega) (by omega)
  rw [hs.1] at g
  cases e:bL (aV nr) v o n a b lim c (s1,s2,s3,s4,s5,s6) with
  | inr r=>rw [e] at g;exact g
  | inl t =>
   rw [e] at g
   obtain⟨g1,g2,g3,g4,g5,g6⟩:=g
   exact⟨⟨g1,g2,g3,g4,g5⟩,by omega⟩
theorem sU (nr:Nat)(a0:List Int)(a0_o:Nat)(a0_n:Nat)(a1:Int)(a2:Int)(a3:Int)(a4:eK×Int)(l0:a0.length<=2^63-1)(l4_1_1:a4.1.1.length<=2^63-1)(l4_1_2_2_1:a4.1.2.2.1.length<=2^63-1)(l4_1_2_2_2:a4.1.2.2.2.length<=2^63-1)(hw:a0_o+a0_n<=a0.length/\a0.length<=1048576)(hr:InR a4.1.1.length a0)(hab:0<=a1/\a1<=a2/\a2<=↑a0_n)(hlt:tN (a2 - a1) < nr+1)(ihr:∀(a0:List Int)(a0_o:Nat)(a0_n:Nat)(a1:Int)(a2:Int)(a3:Int)(a4:eK×Int)(l0:a0.length<=2^63-1)(l4_1_1:a4.1.1.length<=2^63-1)(l4_1_2_2_1:a4.1.2.2.1.length<=2^63-1)(l4_1_2_2_2:a4.1.2.2.2.length<=2^63-1)(hw:a0_o+a0_n<=a0.length/\a0.length<=1048576)(hr:InR a4.1.1.length a0)(hab:0<=a1/\a1<=a2/\a2<=↑a0_n),tN (a2 - a1) < nr->Con Tryz.prog 93 [(.s 0 (0+a0_o*1) a0_n 1),(iv a1),(iv a2),(iv a3),(.f 1000075 [(.a [(.p 1 0),(iv a4.2)])])] [(.live true true (flat c3 a0)),(.live false false [(.s 2 0 a4.1.1.length 10),(iv a4.1.2.1),(.s 0 0 a0.length 1),(.s 3 0 a4.1.2.2.2.length 8)]),(.live false true (flat dI a4.1.1)),(.live false true (flat bZ a4.1.2.2.2))] (.t []) [] [(.live true true (flat c3 (aV nr a0 a0_o a0_n a1 a2 a3 a4))),.un,.un,.un]) {cx:Cx} (hcx:cx.base=4)
 (n0:Nat) (g0:∀(v1:List Int) (v2 v3 v4:Int) (v5:Bool) (v6:Bool),(v1.length=a0.length)/\(InR a4.1.1.length v1)/\(a1<=v2)/\(v2<=v3)/\(v3<=a2)->tN (v3 - v2) < n0->Aw.Good Tryz.prog none 9 (bodyPost Tryz.prog Tryz.f93 (RR cx (.t []) [] [(.live true true (flat c3 (aH (bL (aV nr) a0 a0_o a0_n a1 a2 a3 a4) n0 (v1,v2,v3,v4,v5,v6)))),.un,.un,.un])) cx [] (.l gD n0::gE) (fN nr a0 a0_o a0_n a1 a2 a3 a4 (flat c3 v1) v1.length v2 v3 v4 v5 v6)) (v31:List Int) (v32 v33 v34 v35 v36:Int):(v31.length=a0.length)/\(InR a4.1.1.length v31)/\(a1<=v32)/\(v32<=v33)/\(v33<=a2)/\(v35=v33 - v32)/\(13<=v35)/\(v32<=v36)/\(v36 < v33)/\((v31.length=a0.length))/\((InR a4.1.1.length v31))/\((a1<=v32))/\((v32<=v33))/\((v33<=a2))/\(tN (v33 - v32) < n0+1)->Aw.Good Tryz.prog none 9 (bodyPost Tryz.prog Tryz.f93 (RR cx (.t []) [] [(.live true true (flat c3 (aZ (bL (aV nr) a0 a0_o a0_n a1 a2 a3 a4) n0 (dV (aV nr) a0 a0_o a0_n a1 a2 a3 a4 (v31,v32,v33,v34,v35,v36))))),.un,.un,.un])) cx [] (.c oJ::oK n0) (mX nr a0 a0_o a0_n a1 a2 a3 a4 (flat c3 v31) v31.length v32 v33 v34 v35 v36):=by
 intro hi
 have hpa:=aSr (N:=a4.1.1.length) (v:=v31) (o:=a0_o) (n:=a0_n) (a:=v32) (b:=v33) (c:=((a4.1.1,a4.1.2.1,(v31,a4.1.2.2.2)),a4.2)) (q:=v36) (by omega) hi.2.1 (by omega)
 obtain⟨hpa1,hpa2,hpa3⟩:=hpa
 have hw_1:=aR (n:=(aM v31 a0_o a0_n v32 v33 v36 ((a4.1.1,a4.1.2.1,(v31,a4.1.2.2.2)),a4.2)).1+1) (by omega) (by omega)
 have hrc1:=yZ nr (N:=a4.1.1.length) (v:=(aM v31 a0_o a0_n v32 v33 v36 ((a4.1.1,a4.1.2.1,(v31,a4.1.2.2.2)),a4.2)).2.2) (o:=a0_o) (n:=a0_n) (a:=v32) (b:=(aM v31 a0_o a0_n v32 v33 v36 ((a4.1.1,a4.1.2.1,(v31,a4.1.2.2.2)),a4.2)).1) (lim:=v34) (c:=((a4.1.1,a4.1.2.1,((aM v31 a0_o a0_n v32 v33 v36 ((a4.1.1,a4.1.2.1,(v31,a4.1.2.2.2)),a4.2)).2.2,a4.1.2.2.2)),a4.2)) (by omega) hpa3 (by omega) (by omega)
 obtain⟨hrc1a,hrc1b⟩:=hrc1
 have hrc2:=yZ nr (N:=a4.1.1.length) (v:=(aM v31 a0_o a0_n v32 v33 v36 ((a4.1.1,a4.1.2.1,(v31,a4.1.2.2.2)),a4.2)).2.2) (o:=a0_o) (n:=a0_n) (a:=(W ((aM v31 a0_o a0_n v32 v33 v36 ((a4.1.1,a4.1.2.1,(v31,a4.1.2.2.2)),a4.2)).1+1))) (b:=v33) (lim:=v34) (c:=((a4.1.1,a4.1.2.1,((aM v31 a0_o a0_n v32 v33 v36 ((a4.1.1,a4.1.2.1,(v31,a4.1.2.2.2)),a4.2)).2.2,a4.1.2.2.2)),a4.2)) (by omega) hpa3 (by omega) (by omega)
 obtain⟨hrc2a,hrc2b⟩:=hrc2
 let t0:List (St Tryz.prog):=[.c [0,1,2,3] (aIo v31 a0_o a0_n v32 v33 v36 ((a4.1.1,a4.1.2.1,(v31,a4.1.2.2.2)),a4.2) (by omega) (by omega) (by(try simp only [Lt]);omega) (by omega) (by omega) hi.2.1 (by omega)),.p (show(8:Int)≠0 from by decide)]
 cases h0:(decide (((W ((aM v31 a0_o a0_n v32 v33 v36 ((a4.1.1,a4.1.2.1,(v31,a4.1.2.2.2)),a4.2)).1 - v32)):Int) < (W (v33 - (aM v31 a0_o a0_n v32 v33 v36 ((a4.1.1,a4.1.2.1,(v31,a4.1.2.2.2)),a4.2)).1)))) with
 | true =>
  have q0:=cN h0
  have e:=Eq.refl (dV (aV nr) a0 a0_o a0_n a1 a2 a3 a4 (v31,v32,v33,v34,v35,v36));conv at e=>rhs;simp only [dV,h0,aW]
  rw [e]
  refine ba (t0++[.d h0,.c [0,1,2,3] (by have q:=(ihr ((aM v31 a0_o a0_n v32 v33 v36 ((a4.1.1,a4.1.2.1,(v31,a4.1.2.2.2)),a4.2)).2.2) a0_o a0_n v32 (aM v31 a0_o a0_n v32 v33 v36 ((a4.1.1,a4.1.2.1,(v31,a4.1.2.2.2)),a4.2)).1 v34 ((a4.1.1,a4.1.2.1,((aM v31 a0_o a0_n v32 v33 v36 ((a4.1.1,a4.1.2.1,(v31,a4.1.2.2.2)),a4.2)).2.2,a4.1.2.2.2)),a4.2) (by omega) (by omega) (by(try simp only [Lt]);omega) (by omega) (by omega) hpa3 (by omega) (by omega));(try dsimp only at q);(try rw [show List.length (α:=Int) (aM v31 a0_o a0_n v32 v33 v36 ((a4.1.1,a4.1.2.1,(v31,a4.1.2.2.2)),a4.2)).2.2=v31.length from by first | simp;done | omega] at q);exact q)]) [] [0,1,2,3,4,10,11] [] hcx (m:=n0) gD (gE) (fN nr a0 a0_o a0_n a1 a2 a3 a4 (flat c3 (aV nr ((aM v31 a0_o a0_n v32 v33 v36 ((a4.1.1,a4.1.2.1,(v31,a4.1.2.2.2)),a4.2)).2.2) a0_o a0_n v32 (aM v31 a0_o a0_n v32 v33 v36 ((a4.1.1,a4.1.2.1,(v31,a4.1.2.2.2)),a4.2)).1 v34 ((a4.1.1,a4.1.2.1,((aM v31 a0_o a0_n v32 v33 v36 ((a4.1.1,a4.1.2.1,(v31,a4.1.2.2.2)),a4.2)).2.2,a4.1.2.2.2)),a4.2))) (v31.length) (W ((aM v31 a0_o a0_n v32 v33 v36 ((a4.1.1,a4.1.2.1,(v31,a4.1.2.2.2)),a4.2)).1+1)) v33 v34 (decide (((W ((aM v31 a0_o a0_n v32 v33 v36 ((a4.1.1,a4.1.2.1,(v31,a4.1.2.2.2)),a4.2)).1 - v32)):Int)≥(W (Int.tdiv v35 8)))) ((aM v31 a0_o a0_n v32 v33 v36 ((a4.1.1,a4.1.2.1,(v31,a4.1.2.2.2)),a4.2)).2.1)) (by kernel_rfl) ?_
  have z0:v31.length=(aV nr ((aM v31 a0_o a0_n v32 v33 v36 ((a4.1.1,a4.1.2.1,(v31,a4.1.2.2.2)),a4.2)).2.2) a0_o a0_n v32 (aM v31 a0_o a0_n v32 v33 v36 ((a4.1.1,a4.1.2.1,(v31,a4.1.2.2.2)),a4.2)).1 v34 ((a4.1.1,a4.1.2.1,((aM v31 a0_o a0_n v32 v33 v36 ((a4.1.1,a4.1.2.1,(v31,a4.1.2.2.2)),a4.2)).2.2,a4.1.2.2.2)),a4.2)).length:=by first | omega | (simp;done)
  rw [z0]
  exact g0 (aV nr ((aM v31 a0_o a0_n v32 v33 v36 ((a4.1.1,a4.1.2.1,(v31,a4.1.2.2.2)),a4.2)).2.2) a0_o a0_n v32 (aM v31 a0_o a0_n v32 v33 v36 ((a4.1.1,a4.1.2.1,(v31,a4.1.2.2.2)),a4.2)).1 v34 ((a4.1.1,a4.1.2.1,((aM v31 a0_o a0_n v32 v33 v36 ((a4.1.1,a4.1.2.1,(v31,a4.1.2.2.2)),a4.2)).2.2,a4.1.2.2.2)),a4.2)) (W ((aM v31 a0_o a0_n v32 v33 v36 ((a4.1.1,a4.1.2.1,(v31,a4.1.2.2.2)),a4.2)).1+1)) v33 v34 (decide (((W ((aM v31 a0_o a0_n v32 v33 v36 ((a4.1.1,a4.1.2.1,(v31,a4.1.2.2.2)),a4.2)).1 - v32)):Int)≥(W (Int.tdiv v35 8)))) ((aM v31 a0_o a0_n v32 v33 v36 ((a4.1.1,a4.1.2.1,(v31,a4.1.2.2.2)),a4.2)).2.1) (by and_intros<;>(try simp only [Lt])<;>first | omega | assumption | exact hi.2.1 | exact hi.2.2.1 | exact InR.swap hi.2.1 (by omega) (by omega) | exact InR.swap hr (by omega) (by omega) | exact hbk2 | exact hrv2 | exact hpi2 | exact hpe3 | exact hpa3 | exact hrc1b | exact hrc2b) (by omega)
 | false =>
  have q0:=cY h0
  have e:=Eq.refl (dV (aV nr) a0 a0_o a0_n a1 a2 a3 a4 (v31,v32,v33,v34,v35,v36));conv at e=>rhs;simp only [dV,h0,aW]
  rw [e]
  refine ba (t0++[.d h0,.c [0,1,2,3] (by have q:=(ihr ((aM v31 a0_o a0_n v32 v33 v36 ((a4.1.1,a4.1.2.1,(v31,a4.1.2.2.2)),a4.2)).2.2) a0_o a0_n (W ((aM v31 a0_o a0_n v32 v33 v36 ((a4.1.1,a4.1.2.1,(v31,a4.1.2.2.2)),a4.2)).1+1)) v33 v34 ((a4.1.1,a4.1.2.1,((aM v31 a0_o a0_n v32 v33 v36 ((a4.1.1,a4.1.2.1,(v31,a4.1.2.2.2)),a4.2)).2.2,a4.1.2.2.2)),a4.2) (by omega) (by omega) (by(try simp only [Lt]);omega) (by omega) (by omega) hpa3 (by omega) (by omega));(try dsimp only at q);(try rw [show List.length (α:=Int) (aM v31 a0_o a0_n v32 v33 v36 ((a4.1.1,a4.1.2.1,(v31,a4.1.2.2.2)),a4.2)).2.2=v31.length from by first | simp;done | omega] at q);exact q)]) [] [0,1,2,3,4,10,11] [] hcx (m:=n0) gD (gE) (fN nr a0 a0_o a0_n a1 a2 a3 a4 (flat c3 (aV nr ((aM v31 a0_o a0_n v32 v33 v36 ((a4.1.1,a4.1.2.1,(v31,a4.1.2.2.2)),a4.2)).2.2) a0_o a0_n (W ((aM v31 a0_o a0_n v32 v33 v36 ((a4.1.1,a4.1.2.1,(v31,a4.1.2.2.2)),a4.2)).1+1)) v33 v34 ((a4.1.1,a4.1.2.1,((aM v31 a0_o a0_n v32 v33 v36 ((a4.1.1,a4.1.2.1,(v31,a4.1.2.2.2)),a4.2)).2.2,a4.1.2.2.2)),a4.2))) (v31.length) v32 ((aM v31 a0_o a0_n v32 v33 v36 ((a4.1.1,a4.1.2.1,(v31,a4.1.2.2.2)),a4.2)).1) v34 (decide (((W (v33 - (aM v31 a0_o a0_n v32 v33 v36 ((a4.1.1,a4.1.2.1,(v31,a4.1.2.2.2)),a4.2)).1)):Int)≥(W (Int.tdiv v35 8)))) ((aM v31 a0_o a0_n v32 v33 v36 ((a4.1.1,a4.1.2.1,(v31,a4.1.2.2.2)),a4.2)).2.1)) (by kernel_rfl) ?_
  have z0:v31.length=(aV nr ((aM v31 a0_o a0_n v32 v33 v36 ((a4.1.1,a4.1.2.1,(v31,a4.1.2.2.2)),a4.2)).2.2) a0_o a0_n (W ((aM v31 a0_o a0_n v32 v33 v36 ((a4.1.1,a4.1.2.1,(v31,a4.1.2.2.2)),a4.2)).1+1)) v33 v34 ((a4.1.1,a4.1.2.1,((aM v31 a0_o a0_n v32 v33 v36 ((a4.1.1,a4.1.2.1,(v31,a4.1.2.2.2)),a4.2)).2.2,a4.1.2.2.2)),a4.2)).length:=by first | omega | (simp;done)
  rw [z0]
  exact g0 (aV nr ((aM v31 a0_o a0_n v32 v33 v36 ((a4.1.1,a4.1.2.1,(v31,a4.1.2.2.2)),a4.2)).2.2) a0_o a0_n (W ((aM v31 a0_o a0_n v32 v33 v36 ((a4.1.1,a4.1.2.1,(v31,a4.1.2.2.2)),a4.2)).1+1)) v33 v34 ((a4.1.1,a4.1.2.1,((aM v31 a0_o a0_n v32 v33 v36 ((a4.1.1,a4.1.2.1,(v31,a4.1.2.2.2)),a4.2)).2.2,a4.1.2.2.2)),a4.2)) v32 ((aM v31 a0_o a0_n v32 v33 v36 ((a4.1.1,a4.1.2.1,(v31,a4.1.2.2.2)),a4.2)).1) v34 (decide (((W (v33 - (aM v31 a0_o a0_n v32 v33 v36 ((a4.1.1,a4.1.2.1,(v31,a4.1.2.2.2)),a4.2)).1)):Int)≥(W (Int.tdiv v35 8)))) ((aM v31 a0_o a0_n v32 v33 v36 ((a4.1.1,a4.1.2.1,(v31,a4.1.2.2.2)),a4.2)).2.1) (by and_intros<;>(try simp only [Lt])<;>first | omega | assumption | exact hi.2.1 | exact hi.2.2.1 | exact InR.swap hi.2.1 (by omega) (by omega) | exact InR.swap hr (by omega) (by omega) | exact hbk2 | exact hrv2 | exact hpi2 | exact hpe3 | exact hpa3 | exact hrc1b | exact hrc2b) (by omega)
theorem lI (nr:Nat)(a0:List Int)(a0_o:Nat)(a0_n:Nat)(a1:Int)(a2:Int)(a3:Int)(a4:eK×Int)(l0:a0.length<=2^63-1)(l4_1_1:a4.1.1.length<=2^63-1)(l4_1_2_2_1:a4.1.2.2.1.length<=2^63-1)(l4_1_2_2_2:a4.1.2.2.2.length<=2^63-1)(hw:a0_o+a0_n<=a0.length/\a0.length<=1048576)(hr:InR a4.1.1.length a0)(hab:0<=a1/\a1<=a2/\a2<=↑a0_n)(hlt:tN (a2 - a1) < nr+1)(ihr:∀(a0:List Int)(a0_o:Nat)(a0_n:Nat)(a1:Int)(a2:Int)(a3:Int)(a4:eK×Int)(l0:a0.length<=2^63-1)(l4_1_1:a4.1.1.length<=2^63-1)(l4_1_2_2_1:a4.1.2.2.1.length<=2^63-1)(l4_1_2_2_2:a4.1.2.2.2.length<=2^63-1)(hw:a0_o+a0_n<=a0.length/\a0.length<=1048576)(hr:InR a4.1.1.length a0)(hab:0<=a1/\a1<=a2/\a2<=↑a0_n),tN (a2 - a1) < nr->Con Tryz.prog 93 [(.s 0 (0+a0_o*1) a0_n 1),(iv a1),(iv a2),(iv a3),(.f 1000075 [(.a [(.p 1 0),(iv a4.2)])])] [(.live true true (flat c3 a0)),(.live false false [(.s 2 0 a4.1.1.length 10),(iv a4.1.2.1),(.s 0 0 a0.length 1),(.s 3 0 a4.1.2.2.2.length 8)]),(.live false true (flat dI a4.1.1)),(.live false true (flat bZ a4.1.2.2.2))] (.t []) [] [(.live true true (flat c3 (aV nr a0 a0_o a0_n a1 a2 a3 a4))),.un,.un,.un]) {cx:Cx} (hcx:cx.base=4)
 (n0:Nat) (g0:∀(v1:List Int) (v2 v3 v4:Int) (v5:Bool) (v6:Bool),(v1.length=a0.length)/\(InR a4.1.1.length v1)/\(a1<=v2)/\(v2<=v3)/\(v3<=a2)->tN (v3 - v2) < n0->Aw.Good Tryz.prog none 9 (bodyPost Tryz.prog Tryz.f93 (RR cx (.t []) [] [(.live true true (flat c3 (aH (bL (aV nr) a0 a0_o a0_n a1 a2 a3 a4) n0 (v1,v2,v3,v4,v5,v6)))),.un,.un,.un])) cx [] (.l gD n0::gE) (fN nr a0 a0_o a0_n a1 a2 a3 a4 (flat c3 v1) v1.length v2 v3 v4 v5 v6)) (v23:List Int) (v24 v25 v26:Int) (v27:Bool) (v28:Bool) (v29 v30:Int):(v23.length=a0.length)/\(InR a4.1.1.length v23)/\(a1<=v24)/\(v24<=v25)/\(v25<=a2)/\(v29=v25 - v24)/\(13<=v29)/\(v24<=v30)/\(v30 < v25)/\((v23.length=a0.length))/\((InR a4.1.1.length v23))/\((a1<=v24))/\((v24<=v25))/\((v25<=a2))/\(tN (v25 - v24) < n0+1)->Aw.Good Tryz.prog none 9 (bodyPost Tryz.prog Tryz.f93 (RR cx (.t []) [] [(.live true true (flat c3 (aZ (bL (aV nr) a0 a0_o a0_n a1 a2 a3 a4) n0 (bO (aV nr) a0 a0_o a0_n a1 a2 a3 a4 (v23,v24,v25,v26,v27,v28,v29,v30))))),.un,.un,.un])) cx [] (.c jD::jE n0) (iK nr a0 a0_o a0_n a1 a2 a3 a4 (flat c3 v23) v23.length v24 v25 v26 v27 v28 v29 v30):=by
 intro hi
 have hpe:=aSs (N:=a4.1.1.length) (v:=v23) (o:=a0_o) (n:=a0_n) (a:=v24) (b:=v25) (c:=((a4.1.1,a4.1.2.1,(v23,a4.1.2.2.2)),a4.2)) (q:=v30) (by omega) hi.2.1 (by omega)
 obtain⟨hpe1,hpe2,hpe3⟩:=hpe
 have hw_1:=aR (n:=v24 - 1) (by omega) (by omega)
 cases h0:(decide ((v24:Int) > 0)) with
 | true =>
  have q0:=cN h0
  let t1:List (St Tryz.prog):=[.d h0,.i (W (v24 - 1)) a0_n,cM aF v23 a0_o (W (v24 - 1)) 0 1,.i v30 a0_n,cM aF v23 a0_o v30 0 1,.c [1,2,0,3] (C75 ((a4.1.1,a4.1.2.1,(v23,a4.1.2.2.2)),a4.2) (v23.getD (a0_o+tN (W (v24 - 1))) dF) (v23.getD (a0_o+tN v30) dF) (by omega) (by(try simp only [Lt]);omega) (by omega) (hi.2.1.at (by omega)) (hi.2.1.at (by omega)))]
  cases h1:(!(decide (((oY ((a4.1.1,a4.1.2.1,(v23,a4.1.2.2.2)),a4.2) (v23.getD (a0_o+tN (W (v24 - 1))) dF) (v23.getD (a0_o+tN v30) dF)):Int) < 0))) with
  | true =>
   have e:=Eq.refl (bO (aV nr) a0 a0_o a0_n a1 a2 a3 a4 (v23,v24,v25,v26,v27,v28,v29,v30));conv at e=>rhs;simp only [bO,h0,h1,aW]
   rw [e]
   refine ba (t1++[.d h1,.c [0,1,2,3] (aIp v23 a0_o a0_n v24 v25 v30 ((a4.1.1,a4.1.2.1,(v23,a4.1.2.2.2)),a4.2) (by omega) (by omega) (by(try simp only [Lt]);omega) (by omega) (by omega) hi.2.1 (by omega))]) [] [0,1,2,3,4,10,11] [] hcx (m:=n0) gD (gE) (fN nr a0 a0_o a0_n a1 a2 a3 a4 (flat c3 (dC v23 a0_o a0_n v24 v25 v30 ((a4.1.1,a4.1.2.1,(v23,a4.1.2.2.2)),a4.2)).2) (v23.length) ((dC v23 a0_o a0_n v24 v25 v30 ((a4.1.1,a4.1.2.1,(v23,a4.1.2.2.2)),a4.2)).1) v25 v26 v27 v28) (by kernel_rfl) ?_
   have z0:v23.length=(dC v23 a0_o a0_n v24 v25 v30 ((a4.1.1,a4.1.2.1,(v23,a4.1.2.2.2)),a4.2)).2.length:=by first | omega | (simp;done)
   rw [z0]
   exact g0 ((dC v23 a0_o a0_n v24 v25 v30 ((a4.1.1,a4.1.2.1,(v23,a4.1.2.2.2)),a4.2)).2) ((dC v23 a0_o a0_n v24 v25 v30 ((a4.1.1,a4.1.2.1,(v23,a4.1.2.2.2)),a4.2)).1) v25 v26 v27 v28 (by and_intros<;>(try simp only [Lt])<;>first | omega | assumption | exact hi.2.1 | exact hi.2.2.1 | exact InR.swap hi.2.1 (by omega) (by omega) | exact InR.swap hr (by omega) (by omega) | exact hbk2 | exact hrv2 | exact hpi2 | exact hpe3 | exact hpa3 | exact hrc1b | exact hrc2b) (by omega)
  | false =>
   have e:=Eq.refl (bO (aV nr) a0 a0_o a0_n a1 a2 a3 a4 (v23,v24,v25,v26,v27,v28,v29,v30));conv at e=>rhs;simp only [bO,h0,h1,aW]
   rw [e]
   refine ga (t1++[.d h1,.z 20]) [] [0,1,2,3,4,12,13] [] hcx oJ (oK n0) (mX nr a0 a0_o a0_n a1 a2 a3 a4 (flat c3 v23) (v23.length) v24 v25 v26 v29 v30) (by kernel_rfl) ?_
   exact sU nr a0 a0_o a0_n a1 a2 a3 a4 l0 l4_1_1 l4_1_2_2_1 l4_1_2_2_2 hw hr hab hlt ihr hcx n0 g0 v23 v24 v25 v26 v29 v30 (by and_intros<;>(try simp only [Lt])<;>first | omega | assumption | exact hi.2.1 | exact hi.2.2.1 | exact InR.swap hi.2.1 (by omega) (by omega) | exact InR.swap hr (by omega) (by omega) | exact hbk2 | exact hrv2 | exact hpi2 | exact hpe3 | exact hpa3 | exact hrc1b | exact hrc2b)
 | false =>
  have q0:=cY h0
  have e:=Eq.refl (bO (aV nr) a0 a0_o a0_n a1 a2 a3 a4 (v23,v24,v25,v26,v27,v28,v29,v30));conv at e=>rhs;simp only [bO,h0,aW]
  rw [e]
  refine ga [.d h0,.z 20] [] [0,1,2,3,4,12,13] [] hcx oJ (oK n0) (mX nr a0 a0_o a0_n a1 a2 a3 a4 (flat c3 v23) (v23.length) v24 v25 v26 v29 v30) (by kernel_rfl) ?_
  exact sU nr a0 a0_o a0_n a1 a2 a3 a4 l0 l4_1_1 l4_1_2_2_1 l4_1_2_2_2 hw hr hab hlt ihr hcx n0 g0 v23 v24 v25 v26 v29 v30 (by and_intros<;>(try simp only [Lt])<;>first | omega | assumption | exact hi.2.1 | exact hi.2.2.1 | exact InR.swap hi.2.1 (by omega) (by omega) | exact InR.swap hr (by omega) (by omega) | exact hbk2 | exact hrv2 | exact hpi2 | exact hpe3 | exact hpa3 | exact hrc1b | exact hrc2b)
theorem sV (nr:Nat)(a0:List Int)(a0_o:Nat)(a0_n:Nat)(a1:Int)(a2:Int)(a3:Int)(a4:eK×Int)(l0:a0.length<=2^63-1)(l4_1_1:a4.1.1.length<=2^63-1)(l4_1_2_2_1:a4.1.2.2.1.length<=2^63-1)(l4_1_2_2_2:a4.1.2.2.2.length<=2^63-1)(hw:a0_o+a0_n<=a0.length/\a0.length<=1048576)(hr:InR a4.1.1.length a0)(hab:0<=a1/\a1<=a2/\a2<=↑a0_n)(hlt:tN (a2 - a1) < nr+1)(ihr:∀(a0:List Int)(a0_o:Nat)(a0_n:Nat)(a1:Int)(a2:Int)(a3:Int)(a4:eK×Int)(l0:a0.length<=2^63-1)(l4_1_1:a4.1.1.length<=2^63-1)(l4_1_2_2_1:a4.1.2.2.1.length<=2^63-1)(l4_1_2_2_2:a4.1.2.2.2.length<=2^63-1)(hw:a0_o+a0_n<=a0.length/\a0.length<=1048576)(hr:InR a4.1.1.length a0)(hab:0<=a1/\a1<=a2/\a2<=↑a0_n),tN (a2 - a1) < nr->Con Tryz.prog 93 [(.s 0 (0+a0_o*1) a0_n 1),(iv a1),(iv a2),(iv a3),(.f 1000075 [(.a [(.p 1 0),(iv a4.2)])])] [(.live true true (flat c3 a0)),(.live false false [(.s 2 0 a4.1.1.length 10),(iv a4.1.2.1),(.s 0 0 a0.length 1),(.s 3 0 a4.1.2.2.2.length 8)]),(.live false true (flat dI a4.1.1)),(.live false true (flat bZ a4.1.2.2.2))] (.t []) [] [(.live true true (flat c3 (aV nr a0 a0_o a0_n a1 a2 a3 a4))),.un,.un,.un]) {cx:Cx} (hcx:cx.base=4)
 (n0:Nat) (g0:∀(v1:List Int) (v2 v3 v4:Int) (v5:Bool) (v6:Bool),(v1.length=a0.length)/\(InR a4.1.1.length v1)/\(a1<=v2)/\(v2<=v3)/\(v3<=a2)->tN (v3 - v2) < n0->Aw.Good Tryz.prog none 9 (bodyPost Tryz.prog Tryz.f93 (RR cx (.t []) [] [(.live true true (flat c3 (aH (bL (aV nr) a0 a0_o a0_n a1 a2 a3 a4) n0 (v1,v2,v3,v4,v5,v6)))),.un,.un,.un])) cx [] (.l gD n0::gE) (fN nr a0 a0_o a0_n a1 a2 a3 a4 (flat c3 v1) v1.length v2 v3 v4 v5 v6)) (v14:List Int) (v15 v16 v17:Int) (v18:Bool) (v19:Bool) (v20 v21 v22:Int):(v14.length=a0.length)/\(InR a4.1.1.length v14)/\(a1<=v15)/\(v15<=v16)/\(v16<=a2)/\(v20=v16 - v15)/\(13<=v20)/\(v15<=v21)/\(v21 < v16)/\((v14.length=a0.length))/\((InR a4.1.1.length v14))/\((a1<=v15))/\((v15<=v16))/\((v16<=a2))/\(tN (v16 - v15) < n0+1)->Aw.Good Tryz.prog none 9 (bodyPost Tryz.prog Tryz.f93 (RR cx (.t []) [] [(.live true true (flat c3 (aZ (bL (aV nr) a0 a0_o a0_n a1 a2 a3 a4) n0 (bX (aV nr) a0 a0_o a0_n a1 a2 a3 a4 (v14,v15,v16,v17,v18,v19,v20,v21,v22))))),.un,.un,.un])) cx [] (.c oL::oM n0) (mY nr a0 a0_o a0_n a1 a2 a3 a4 (flat c3 v14) v14.length v15 v16 v17 v18 v19 v20 v21 v22):=by
 intro hi
 have hpi:=aSq (N:=a4.1.1.length) (v:=v14) (o:=a0_o) (n:=a0_n) (a:=v15) (b:=v16) (c:=((a4.1.1,a4.1.2.1,(v14,a4.1.2.2.2)),a4.2)) (by omega) hi.2.1 (by omega)
 obtain⟨hpi1,hpi2⟩:=hpi
 rcases vA v18 with h0 | h0
 ·skip
  let t1:List (St Tryz.prog):=[.d h0]
  rcases vA v19 with h1 | h1
  ·skip
   let t2:List (St Tryz.prog):=(t1++[.d h1])
   cases h2:((v22:Int) == 1) with
   | true =>
    have q2:=eq_of_beq h2
    let t3:List (St Tryz.prog):=(t2++[.d h2,.c [0,1,2,3] (aIq v14 a0_o a0_n v15 v16 ((a4.1.1,a4.1.2.1,(v14,a4.1.2.2.2)),a4.2) (by omega) (by omega) (by(try simp only [Lt]);omega) (by omega) (by omega) hi.2.1 (by omega))])
    cases h3:(cS v14 a0_o a0_n v15 v16 ((a4.1.1,a4.1.2.1,(v14,a4.1.2.2.2)),a4.2)).1 with
    | true =>
     have e:=Eq.refl (bX (aV nr) a0 a0_o a0_n a1 a2 a3 a4 (v14,v15,v16,v17,v18,v19,v20,v21,v22));conv at e=>rhs;simp only [bX,h0,h1,h2,h3,aW]
     rw [e]
     try dsimp only [aZ]
     try dsimp only
     try rw [show List.length (α:=Int) (cS v14 a0_o a0_n v15 v16 ((a4.1.1,a4.1.2.1,(v14,a4.1.2.2.2)),a4.2)).2=v14.length from by first | simp;done | omega]
     exact wG (t3++[.d h3]) [] [0] [] hcx (by kernel_rfl)
    | false =>
     have e:bX (aV nr) a0 a0_o a0_n a1 a2 a3 a4 (v14,v15,v16,v17,v18,v19,v20,v21,v22)=(bO (aV nr) a0 a0_o a0_n a1 a2 a3 a4 ((cS v14 a0_o a0_n v15 v16 ((a4.1.1,a4.1.2.1,(v14,a4.1.2.2.2)),a4.2)).2,v15,v16,v17,v18,v19,v20,v21)):=by simp only [bX,h0,h1,h2,h3,aW]
     rw [e]
     refine ga (t3++[.d h3,.z 17]) [] [0,1,2,3,4,10,11,12,13] [] hcx jD (jE n0) (iK nr a0 a0_o a0_n a1 a2 a3 a4 (flat c3 (cS v14 a0_o a0_n v15 v16 ((a4.1.1,a4.1.2.1,(v14,a4.1.2.2.2)),a4.2)).2) (v14.length) v15 v16 v17 v18 v19 v20 v21) (by kernel_rfl) ?_
     have z0:v14.length=(cS v14 a0_o a0_n v15 v16 ((a4.1.1,a4.1.2.1,(v14,a4.1.2.2.2)),a4.2)).2.length:=by first | omega | (simp;done)
     rw [z0]
     exact lI nr a0 a0_o a0_n a1 a2 a3 a4 l0 l4_1_1 l4_1_2_2_1 l4_1_2_2_2 hw hr hab hlt ihr hcx n0 g0 ((cS v14 a0_o a0_n v15 v16 ((a4.1.1,a4.1.2.1,(v14,a4.1.2.2.2)),a4.2)).2) v15 v16 v17 v18 v19 v20 v21 (by and_intros<;>(try simp only [Lt])<;>first | omega | assumption | exact hi.2.1 | exact hi.2.2.1 | exact InR.swap hi.2.1 (by omega) (by omega) | exact InR.swap hr (by omega) (by omega) | exact hbk2 | exact hrv2 | exact hpi2 | exact hpe3 | exact hpa3 | exact hrc1b | exact hrc2b)
   | false =>
    have q2:=ne_of_beq_false h2
    have e:bX (aV nr) a0 a0_o a0_n a1 a2 a3 a4 (v14,v15,v16,v17,v18,v19,v20,v21,v22)=(bO (aV nr) a0 a0_o a0_n a1 a2 a3 a4 (v14,v15,v16,v17,v18,v19,v20,v21)):=by simp only [bX,h0,h1,h2,aW]
    rw [e]
    refine ga (t2++[.d h2,.z 17]) [] [0,1,2,3,4,10,11,12,13] [] hcx jD (jE n0) (iK nr a0 a0_o a0_n a1 a2 a3 a4 (flat c3 v14) (v14.length) v15 v16 v17 v18 v19 v20 v21) (by kernel_rfl) ?_
    exact lI nr a0 a0_o a0_n a1 a2 a3 a4 l0 l4_1_1 l4_1_2_2_1 l4_1_2_2_2 hw hr hab hlt ihr hcx n0 g0 v14 v15 v16 v17 v18 v19 v20 v21 (by and_intros<;>(try simp only [Lt])<;>first | omega | assumption | exact hi.2.1 | exact hi.2.2.1 | exact InR.swap hi.2.1 (by omega) (by omega) | exact InR.swap hr (by omega) (by omega) | exact hbk2 | exact hrv2 | exact hpi2 | exact hpe3 | exact hpa3 | exact hrc1b | exact hrc2b)
  ·skip
   have e:bX (aV nr) a0 a0_o a0_n a1 a2 a3 a4 (v14,v15,v16,v17,v18,v19,v20,v21,v22)=(bO (aV nr) a0 a0_o a0_n a1 a2 a3 a4 (v14,v15,v16,v17,v18,v19,v20,v21)):=by simp only [bX,h0,h1,aW]
   rw [e]
   refine ga (t1++[.d h1,.z 17]) [] [0,1,2,3,4,10,11,12,13] [] hcx jD (jE n0) (iK nr a0 a0_o a0_n a1 a2 a3 a4 (flat c3 v14) (v14.length) v15 v16 v17 v18 v19 v20 v21) (by kernel_rfl) ?_
   exact lI nr a0 a0_o a0_n a1 a2 a3 a4 l0 l4_1_1 l4_1_2_2_1 l4_1_2_2_2 hw hr hab hlt ihr hcx n0 g0 v14 v15 v16 v17 v18 v19 v20 v21 (by and_intros<;>(try simp only [Lt])<;>first | omega | assumption | exact hi.2.1 | exact hi.2.2.1 | exact InR.swap hi.2.1 (by omega) (by omega) | exact InR.swap hr (by omega) (by omega) | exact hbk2 | exact hrv2 | exact hpi2 | exact hpe3 | exact hpa3 | exact hrc1b | exact hrc2b)
 ·skip
  have e:bX (aV nr) a0 a0_o a0_n a1 a2 a3 a4 (v14,v15,v16,v17,v18,v19,v20,v21,v22)=(bO (aV nr) a0 a0_o a0_n a1 a2 a3 a4 (v14,v15,v16,v17,v18,v19,v20,v21)):=by simp only [bX,h0,aW]
  rw [e]
  refine ga [.d h0,.z 17] [] [0,1,2,3,4,10,11,12,13] [] hcx jD (jE n0) (iK nr a0 a0_o a0_n a1 a2 a3 a4 (flat c3 v14) (v14.length) v15 v16 v17 v18 v19 v20 v21) (by kernel_rfl) ?_
  exact lI nr a0 a0_o a0_n a1 a2 a3 a4 l0 l4_1_1 l4_1_2_2_1 l4_1_2_2_2 hw hr hab hlt ihr hcx n0 g0 v14 v15 v16 v17 v18 v19 v20 v21 (by and_intros<;>(try simp only [Lt])<;>first | omega | assumption | exact hi.2.1 | exact hi.2.2.1 | exact InR.swap hi.2.1 (by omega) (by omega) | exact InR.swap hr (by omega) (by omega) | exact hbk2 | exact hrv2 | exact hpi2 | exact hpe3 | exact hpa3 | exact hrc1b | exact hrc2b)
theorem sW (nr:Nat)(a0:List Int)(a0_o:Nat)(a0_n:Nat)(a1:Int)(a2:Int)(a3:Int)(a4:eK×Int)(l0:a0.length<=2^63-1)(l4_1_1:a4.1.1.length<=2^63-1)(l4_1_2_2_1:a4.1.2.2.1.length<=2^63-1)(l4_1_2_2_2:a4.1.2.2.2.length<=2^63-1)(hw:a0_o+a0_n<=a0.length/\a0.length<=1048576)(hr:InR a4.1.1.length a0)(hab:0<=a1/\a1<=a2/\a2<=↑a0_n)(hlt:tN (a2 - a1) < nr+1)(ihr:∀(a0:List Int)(a0_o:Nat)(a0_n:Nat)(a1:Int)(a2:Int)(a3:Int)(a4:eK×Int)(l0:a0.length<=2^63-1)(l4_1_1:a4.1.1.length<=2^63-1)(l4_1_2_2_1:a4.1.2.2.1.length<=2^63-1)(l4_1_2_2_2:a4.1.2.2.2.length<=2^63-1)(hw:a0_o+a0_n<=a0.length/\a0.length<=1048576)(hr:InR a4.1.1.length a0)(hab:0<=a1/\a1<=a2/\a2<=↑a0_n),tN (a2 - a1) < nr->Con Tryz.prog 93 [(.s 0 (0+a0_o*1) a0_n 1),(iv a1),(iv a2),(iv a3),(.f 1000075 [(.a [(.p 1 0),(iv a4.2)])])] [(.live true true (flat c3 a0)),(.live false false [(.s 2 0 a4.1.1.length 10),(iv a4.1.2.1),(.s 0 0 a0.length 1),(.s 3 0 a4.1.2.2.2.length 8)]),(.live false true (flat dI a4.1.1)),(.live false true (flat bZ a4.1.2.2.2))] (.t []) [] [(.live true true (flat c3 (aV nr a0 a0_o a0_n a1 a2 a3 a4))),.un,.un,.un]) {cx:Cx} (hcx:cx.base=4)
 (n0:Nat) (g0:∀(v1:List Int) (v2 v3 v4:Int) (v5:Bool) (v6:Bool),(v1.length=a0.length)/\(InR a4.1.1.length v1)/\(a1<=v2)/\(v2<=v3)/\(v3<=a2)->tN (v3 - v2) < n0->Aw.Good Tryz.prog none 9 (bodyPost Tryz.prog Tryz.f93 (RR cx (.t []) [] [(.live true true (flat c3 (aH (bL (aV nr) a0 a0_o a0_n a1 a2 a3 a4) n0 (v1,v2,v3,v4,v5,v6)))),.un,.un,.un])) cx [] (.l gD n0::gE) (fN nr a0 a0_o a0_n a1 a2 a3 a4 (flat c3 v1) v1.length v2 v3 v4 v5 v6)) (v7:List Int) (v8 v9 v10:Int) (v11:Bool) (v12:Bool) (v13:Int):(v7.length=a0.length)/\(InR a4.1.1.length v7)/\(a1<=v8)/\(v8<=v9)/\(v9<=a2)/\(v13=v9 - v8)/\(13<=v13)/\((v7.length=a0.length))/\((InR a4.1.1.length v7))/\((a1<=v8))/\((v8<=v9))/\((v9<=a2))/\(tN (v9 - v8) < n0+1)->Aw.Good Tryz.prog none 9 (bodyPost Tryz.prog Tryz.f93 (RR cx (.t []) [] [(.live true true (flat c3 (aZ (bL (aV nr) a0 a0_o a0_n a1 a2 a3 a4) n0 (dW (aV nr) a0 a0_o a0_n a1 a2 a3 a4 (v7,v8,v9,v10,v11,v12,v13))))),.un,.un,.un])) cx [] (.c oN::oO n0) (mZ nr a0 a0_o a0_n a1 a2 a3 a4 (flat c3 v7) v7.length v8 v9 v10 v11 v12 v13):=by
 intro hi
 have hrv:=aSo (N:=a4.1.1.length) (v:=v7) (o:=a0_o) (n:=a0_n) (a:=v8) (b:=v9) (c:=((a4.1.1,a4.1.2.1,(v7,a4.1.2.2.2)),a4.2)) (by omega) hi.2.1 (by omega)
 obtain⟨hrv1,hrv2⟩:=hrv
 have hcp:=aSp (v:=v7) (o:=a0_o) (n:=a0_n) (a:=v8) (b:=v9) (c:=((a4.1.1,a4.1.2.1,(v7,a4.1.2.2.2)),a4.2)) (by omega) (by omega)
 have hw_1:=aR (n:=v9 - 1) (by omega) (by omega)
 have hw_2:=aR (n:=(bD v7 a0_o a0_n v8 v9 ((a4.1.1,a4.1.2.1,(v7,a4.1.2.2.2)),a4.2)).1 - v8) (by omega) (by omega)
 have hw_3:=aR (n:=(W (v9 - 1)) - (W ((bD v7 a0_o a0_n v8 v9 ((a4.1.1,a4.1.2.1,(v7,a4.1.2.2.2)),a4.2)).1 - v8))) (by omega) (by omega)
 let t0:List (St Tryz.prog):=[.c [0,1,2,3] (aIs v7 a0_o a0_n v8 v9 ((a4.1.1,a4.1.2.1,(v7,a4.1.2.2.2)),a4.2) (by omega) (by omega) (by(try simp only [Lt]);omega) (by omega) (by omega) hi.2.1 (by omega))]
 cases h0:(((bD v7 a0_o a0_n v8 v9 ((a4.1.1,a4.1.2.1,(v7,a4.1.2.2.2)),a4.2)).2:Int) == 2) with
 | true =>
  have q0:=eq_of_beq h0
  have e:=Eq.refl (dW (aV nr) a0 a0_o a0_n a1 a2 a3 a4 (v7,v8,v9,v10,v11,v12,v13));conv at e=>rhs;simp only [dW,h0,aW]
  rw [e]
  refine ga (t0++[.d h0,.c [0,1,2,3] (aIn v7 a0_o a0_n v8 v9 ((a4.1.1,a4.1.2.1,(v7,a4.1.2.2.2)),a4.2) (by omega) (by omega) (by(try simp only [Lt]);omega) (by omega) (by omega) hi.2.1 (by omega)),.z 15]) [] [0,1,2,3,4,10,11,12,13,14] [] hcx oL (oM n0) (mY nr a0 a0_o a0_n a1 a2 a3 a4 (flat c3 (eY v7 a0_o a0_n v8 v9 ((a4.1.1,a4.1.2.1,(v7,a4.1.2.2.2)),a4.2))) (v7.length) v8 v9 v10 v11 v12 v13 (W ((W (v9 - 1)) - (W ((bD v7 a0_o a0_n v8 v9 ((a4.1.1,a4.1.2.1,(v7,a4.1.2.2.2)),a4.2)).1 - v8)))) 1) (by kernel_rfl) ?_
  have z0:v7.length=(eY v7 a0_o a0_n v8 v9 ((a4.1.1,a4.1.2.1,(v7,a4.1.2.2.2)),a4.2)).length:=by first | omega | (simp;done)
  rw [z0]
  exact sV nr a0 a0_o a0_n a1 a2 a3 a4 l0 l4_1_1 l4_1_2_2_1 l4_1_2_2_2 hw hr hab hlt ihr hcx n0 g0 (eY v7 a0_o a0_n v8 v9 ((a4.1.1,a4.1.2.1,(v7,a4.1.2.2.2)),a4.2)) v8 v9 v10 v11 v12 v13 (W ((W (v9 - 1)) - (W ((bD v7 a0_o a0_n v8 v9 ((a4.1.1,a4.1.2.1,(v7,a4.1.2.2.2)),a4.2)).1 - v8)))) 1 (by and_intros<;>(try simp only [Lt])<;>first | omega | assumption | exact hi.2.1 | exact hi.2.2.1 | exact InR.swap hi.2.1 (by omega) (by omega) | exact InR.swap hr (by omega) (by omega) | exact hbk2 | exact hrv2 | exact hpi2 | exact hpe3 | exact hpa3 | exact hrc1b | exact hrc2b)
 | false =>
  have q0:=ne_of_beq_false h0
  have e:=Eq.refl (dW (aV nr) a0 a0_o a0_n a1 a2 a3 a4 (v7,v8,v9,v10,v11,v12,v13));conv at e=>rhs;simp only [dW,h0,aW]
  rw [e]
  refine ga (t0++[.d h0,.z 15]) [] [0,1,2,3,4,10,11,12,13,14] [] hcx oL (oM n0) (mY nr a0 a0_o a0_n a1 a2 a3 a4 (flat c3 v7) (v7.length) v8 v9 v10 v11 v12 v13 ((bD v7 a0_o a0_n v8 v9 ((a4.1.1,a4.1.2.1,(v7,a4.1.2.2.2)),a4.2)).1) ((bD v7 a0_o a0_n v8 v9 ((a4.1.1,a4.1.2.1,(v7,a4.1.2.2.2)),a4.2)).2)) (by kernel_rfl) ?_
  exact sV nr a0 a0_o a0_n a1 a2 a3 a4 l0 l4_1_1 l4_1_2_2_1 l4_1_2_2_2 hw hr hab hlt ihr hcx n0 g0 v7 v8 v9 v10 v11 v12 v13 ((bD v7 a0_o a0_n v8 v9 ((a4.1.1,a4.1.2.1,(v7,a4.1.2.2.2)),a4.2)).1) ((bD v7 a0_o a0_n v8 v9 ((a4.1.1,a4.1.2.1,(v7,a4.1.2.2.2)),a4.2)).2) (by and_intros<;>(try simp only [Lt])<;>first | omega | assumption | exact hi.2.1 | exact hi.2.2.1 | exact InR.swap hi.2.1 (by omega) (by omega) | exact InR.swap hr (by omega) (by omega) | exact hbk2 | exact hrv2 | exact hpi2 | exact hpe3 | exact hpa3 | exact hrc1b | exact hrc2b)
theorem aGu (nr:Nat)(a0:List Int)(a0_o:Nat)(a0_n:Nat)(a1:Int)(a2:Int)(a3:Int)(a4:eK×Int)(l0:a0.length<=2^63-1)(l4_1_1:a4.1.1.length<=2^63-1)(l4_1_2_2_1:a4.1.2.2.1.length<=2^63-1)(l4_1_2_2_2:a4.1.2.2.2.length<=2^63-1)(hw:a0_o+a0_n<=a0.length/\a0.length<=1048576)(hr:InR a4.1.1.length a0)(hab:0<=a1/\a1<=a2/\a2<=↑a0_n)(hlt:tN (a2 - a1) < nr+1)(ihr:∀(a0:List Int)(a0_o:Nat)(a0_n:Nat)(a1:Int)(a2:Int)(a3:Int)(a4:eK×Int)(l0:a0.length<=2^63-1)(l4_1_1:a4.1.1.length<=2^63-1)(l4_1_2_2_1:a4.1.2.2.1.length<=2^63-1)(l4_1_2_2_2:a4.1.2.2.2.length<=2^63-1)(hw:a0_o+a0_n<=a0.length/\a0.length<=1048576)(hr:InR a4.1.1.length a0)(hab:0<=a1/\a1<=a2/\a2<=↑a0_n),tN (a2 - a1) < nr->Con Tryz.prog 93 [(.s 0 (0+a0_o*1) a0_n 1),(iv a1),(iv a2),(iv a3),(.f 1000075 [(.a [(.p 1 0),(iv a4.2)])])] [(.live true true (flat c3 a0)),(.live false false [(.s 2 0 a4.1.1.length 10),(iv a4.1.2.1),(.s 0 0 a0.length 1),(.s 3 0 a4.1.2.2.2.length 8)]),(.live false true (flat dI a4.1.1)),(.live false true (flat bZ a4.1.2.2.2))] (.t []) [] [(.live true true (flat c3 (aV nr a0 a0_o a0_n a1 a2 a3 a4))),.un,.un,.un]) {cx:Cx} (hcx:cx.base=4):∀(n:Nat) (v1:List Int) (v2 v3 v4:Int) (v5:Bool) (v6:Bool),(v1.length=a0.length)/\(InR a4.1.1.length v1)/\(a1<=v2)/\(v2<=v3)/\(v3<=a2)->tN (v3 - v2) < n->Aw.Good Tryz.prog none 9 (bodyPost Tryz.prog Tryz.f93 (RR cx (.t []) [] [(.live true true (flat c3 (aH (bL (aV nr) a0 a0_o a0_n a1 a2 a3 a4) n (v1,v2,v3,v4,v5,v6)))),.un,.un,.un])) cx [] (.l gD n::gE) (fN nr a0 a0_o a0_n a1 a2 a3 a4 (flat c3 v1) v1.length v2 v3 v4 v5 v6):=by
 intro n
 induction n with
 | zero=>intro v1 v2 v3 v4 v5 v6 hi hn;exact absurd hn (eL _)
 | succ n ih =>
  intro v1 v2 v3 v4 v5 v6 hi hn
  refine aS ?_
  have hw_l:=aR (n:=v3 - v2) (by omega) (by omega)
  have hbk:=aSn (N:=a4.1.1.length) (v:=v1) (o:=a0_o) (n:=a0_n) (a:=v2) (b:=v3) (c:=((a4.1.1,a4.1.2.1,(v1,a4.1.2.2.2)),a4.2)) (by omega) hi.2.1 (by omega)
  obtain⟨hbk1,hbk2⟩:=hbk
  cases h0:(decide (((W (v3 - v2)):Int)<=12)) with
  | true =>
   have q0:=cN h0
   have e:=Eq.refl (bL (aV nr) a0 a0_o a0_n a1 a2 a3 a4 (v1,v2,v3,v4,v5,v6));conv at e=>rhs;simp only [bL,h0,aW]
   rw [aK,e]
   try dsimp only [aZ]
   try dsimp only
   try rw [show List.length (α:=Int) (gY v1 a0_o a0_n v2 v3 ((a4.1.1,a4.1.2.1,(v1,a4.1.2.2.2)),a4.2))=v1.length from by first | simp;done | omega]
   exact wG [.d h0,.c [0,1,2,3] (aIm v1 a0_o a0_n v2 v3 ((a4.1.1,a4.1.2.1,(v1,a4.1.2.2.2)),a4.2) (by omega) (by omega) (by(try simp only [Lt]);omega) (by omega) (by omega) hi.2.1 (by omega))] [] [0] [] hcx (by kernel_rfl)
  | false =>
   have q0:=cY h0
   let t1:List (St Tryz.prog):=[.d h0]
   cases h1:((v4:Int) == 0) with
   | true =>
    have q1:=eq_of_beq h1
    have e:=Eq.refl (bL (aV nr) a0 a0_o a0_n a1 a2 a3 a4 (v1,v2,v3,v4,v5,v6));conv at e=>rhs;simp only [bL,h0,h1,aW]
    rw [aK,e]
    try dsimp only [aZ]
    try dsimp only
    try rw [show List.length (α:=Int) (hH v1 a0_o a0_n v2 v3 ((a4.1.1,a4.1.2.1,(v1,a4.1.2.2.2)),a4.2))=v1.length from by first | simp;done | omega]
    exact wG (t1++[.d h1,.c [0,1,2,3] (aIr v1 a0_o a0_n v2 v3 ((a4.1.1,a4.1.2.1,(v1,a4.1.2.2.2)),a4.2) (by omega) (by omega) (by(try simp only [Lt]);omega) (by omega) (by omega) hi.2.1 (by omega))]) [] [0] [] hcx (by kernel_rfl)
   | false =>
    have q1:=ne_of_beq_false h1
    let t2:List (St Tryz.prog):=(t1++[.d h1])
    cases h2:(!v5) with
    | true =>
     have e:=Eq.refl (bL (aV nr) a0 a0_o a0_n a1 a2 a3 a4 (v1,v2,v3,v4,v5,v6));conv at e=>rhs;simp only [bL,h0,h1,h2,aW]
     rw [aK,e]
     refine ga (t2++[.d h2,.c [0,1,2,3] (aIt v1 a0_o a0_n v2 v3 ((a4.1.1,a4.1.2.1,(v1,a4.1.2.2.2)),a4.2) (by omega) (by omega) (by(try simp only [Lt]);omega) (by omega) (by omega) hi.2.1 (by omega)),.z 10]) [] [0,1,2,3,4,10,11,12] [] hcx oN (oO n) (mZ nr a0 a0_o a0_n a1 a2 a3 a4 (flat c3 (eQ v1 a0_o a0_n v2 v3 ((a4.1.1,a4.1.2.1,(v1,a4.1.2.2.2)),a4.2))) (v1.length) v2 v3 (W (v4 - 1)) v5 v6 (W (v3 - v2))) (by kernel_rfl) ?_
     have z0:v1.length=(eQ v1 a0_o a0_n v2 v3 ((a4.1.1,a4.1.2.1,(v1,a4.1.2.2.2)),a4.2)).length:=by first | omega | (simp;done)
     rw [z0]
     exact sW nr a0 a0_o a0_n a1 a2 a3 a4 l0 l4_1_1 l4_1_2_2_1 l4_1_2_2_2 hw hr hab hlt ihr hcx n ih (eQ v1 a0_o a0_n v2 v3 ((a4.1.1,a4.1.2.1,(v1,a4.1.2.2.2)),a4.2)) v2 v3 (W (v4 - 1)) v5 v6 (W (v3 - v2)) (by and_intros<;>(try simp only [Lt])<;>first | omega | assumption | exact hi.2.1 | exact hi.2.2.1 | exact InR.swap hi.2.1 (by omega) (by omega) | exact InR.swap hr (by omega) (by omega) | exact hbk2 | exact hrv2 | exact hpi2 | exact hpe3 | exact hpa3 | exact hrc1b | exact hrc2b)
    | false =>
     have e:=Eq.refl (bL (aV nr) a0 a0_o a0_n a1 a2 a3 a4 (v1,v2,v3,v4,v5,v6));conv at e=>rhs;simp only [bL,h0,h1,h2,aW]
     rw [aK,e]
     refine ga (t2++[.d h2,.z 10]) [] [0,1,2,3,4,10,11,12] [] hcx oN (oO n) (mZ nr a0 a0_o a0_n a1 a2 a3 a4 (flat c3 v1) (v1.length) v2 v3 v4 v5 v6 (W (v3 - v2))) (by kernel_rfl) ?_
     exact sW nr a0 a0_o a0_n a1 a2 a3 a4 l0 l4_1_1 l4_1_2_2_1 l4_1_2_2_2 hw hr hab hlt ihr hcx n ih v1 v2 v3 v4 v5 v6 (W (v3 - v2)) (by and_intros<;>(try simp only [Lt])<;>first | omega | assumption | exact hi.2.1 | exact hi.2.2.1 | exact InR.swap hi.2.1 (by omega) (by omega) | exact InR.swap hr (by omega) (by omega) | exact hbk2 | exact hrv2 | exact hpi2 | exact hpe3 | exact hpa3 | exact hrc1b | exact hrc2b)
theorem aIu:∀(nr:Nat) (a0:List Int) (a0_o:Nat) (a0_n:Nat) (a1:Int) (a2:Int) (a3:Int) (a4:eK×Int) (l0:a0.length<=2^63-1) (l4_1_1:a4.1.1.length<=2^63-1) (l4_1_2_2_1:a4.1.2.2.1.length<=2^63-1) (l4_1_2_2_2:a4.1.2.2.2.length<=2^63-1) (hw:a0_o+a0_n<=a0.length/\a0.length<=1048576) (hr:InR a4.1.1.length a0) (hab:0<=a1/\a1<=a2/\a2<=↑a0_n),tN (a2 - a1) < nr->Con Tryz.prog 93 [(.s 0 (0+a0_o*1) a0_n 1),(iv a1),(iv a2),(iv a3),(.f 1000075 [(.a [(.p 1 0),(iv a4.2)])])] [(.live true true (flat c3 a0)),(.live false false [(.s 2 0 a4.1.1.length 10),(iv a4.1.2.1),(.s 0 0 a0.length 1),(.s 3 0 a4.1.2.2.2.length 8)]),(.live false true (flat dI a4.1.1)),(.live false true (flat bZ a4.1.2.2.2))] (.t []) [] [(.live true true (flat c3 (aV nr a0 a0_o a0_n a1 a2 a3 a4))),.un,.un,.un]:=by
 intro nr
 induction nr with
 | zero=>intro a0 a0_o a0_n a1 a2 a3 a4 l0 l4_1_1 l4_1_2_2_1 l4_1_2_2_2 hw hr hab hlt;exact absurd hlt (eL _)
 | succ nr ihr =>
 intro a0 a0_o a0_n a1 a2 a3 a4 l0 l4_1_1 l4_1_2_2_1 l4_1_2_2_2 hw hr hab hlt
 refine bA Tryz.func93 (by kernel_rfl) fun cx hcx=>?_
 have e:=Eq.refl (aV (nr+1) a0 a0_o a0_n a1 a2 a3 a4);conv at e=>rhs;simp only [aV]
 rw [e]
 refine en [] [] [0,1,2,3,4,10,11] [] hcx gD (gE) (fN nr a0 a0_o a0_n a1 a2 a3 a4 (flat c3 a0) (a0.length) a1 a2 a3 true true) (tN (a2 - a1)+1) (by kernel_rfl) ?_
 exact aGu nr a0 a0_o a0_n a1 a2 a3 a4 l0 l4_1_1 l4_1_2_2_1 l4_1_2_2_2 hw hr hab hlt ihr hcx (tN (a2 - a1)+1) a0 a1 a2 a3 true true (by and_intros<;>(try simp only [Lt])<;>first | omega | assumption | exact hi.2.1 | exact hi.2.2.1 | exact InR.swap hi.2.1 (by omega) (by omega) | exact InR.swap hr (by omega) (by omega) | exact hbk2 | exact hrv2 | exact hpi2 | exact hpe3 | exact hpa3 | exact hrc1b | exact hrc2b) (by omega)
theorem aMj (a0:List Int)(a0_o:Nat)(a0_n:Nat)(a1:Int)(a2:Int)(a3:Int)(a4:eK×Int)(l0:a0.length<=2^63-1)(l4_1_1:a4.1.1.length<=2^63-1)(l4_1_2_2_1:a4.1.2.2.1.length<=2^63-1)(l4_1_2_2_2:a4.1.2.2.2.length<=2^63-1)(hw:a0_o+a0_n<=a0.length/\a0.length<=1048576)(hr:InR a4.1.1.length a0)(hab:0<=a1/\a1<=a2/\a2<=↑a0_n):Con Tryz.prog 93 [(.s 0 (0+a0_o*1) a0_n 1),(iv a1),(iv a2),(iv a3),(.f 1000075 [(.a [(.p 1 0),(iv a4.2)])])] [(.live true true (flat c3 a0)),(.live false false [(.s 2 0 a4.1.1.length 10),(iv a4.1.2.1),(.s 0 0 a0.length 1),(.s 3 0 a4.1.2.2.2.length 8)]),(.live false true (flat dI a4.1.1)),(.live false true (flat bZ a4.1.2.2.2))] (.t []) [] [(.live true true (flat c3 (sF a0 a0_o a0_n a1 a2 a3 a4))),.un,.un,.un]:=aIu (tN (a2 - a1)+1) a0 a0_o a0_n a1 a2 a3 a4 l0 l4_1_1 l4_1_2_2_1 l4_1_2_2_2 hw hr hab (lss _)
end Go.Proofs.YtkdfcbmcgnaicaaGreat
namespace Go.Proofs.YtkdfcbmcgnaicaaGreat
open Go.Proofs Go.Aw Go.RowKit
set_option maxRecDepth 100000
section
open Go.Sort
variable {o n : Nat} {l l0 : List Int} {c : qT} {nr m : Nat} {a1 a2 a3 : Int}
def PqT (l:List Int)(o n:Nat)(rr:List Int->Nat->Nat->Int->Int->Int->qT->List Int)(l0:List Int)(a1 a2 a3:Int)(c:qT)(m:Nat)(x:(List Int×Int×Int×Int×Bool×Bool)⊕List Int)(t:Array Int):Prop :=
 aZ (bL rr l0 o n a1 a2 a3 c) m x=wp l o t/\t.size=n
variable {rr : List Int → Nat → Nat → Int → Int → Int → qT → List Int}
 (hl:o+n<=l.length) (hn:n<=1048576)
 (Hr:∀(c:qT) (d:Array Int) (a b lim:Nat),d.size=n->a<=b->b<=n->lim<=1048576->b - a < nr->rr (wp l o d) o n (a:Int) (b:Int) (lim:Int) c=wp l o (pdq (bK c) d a b lim true true)/\(pdq (bK c) d a b lim true true).size=n)
 (Hm:∀(d:Array Int) (a b lim:Nat) (w1 w2:Bool),d.size=n->a<=b->b<=n->lim<=1048576->b - a < m->b - a<=nr->aH (bL rr l0 o n a1 a2 a3 c) m (wp l o d,(a:Int),(b:Int),(lim:Int),w1,w2)=wp l o (pdq (bK c) d a b lim w1 w2)/\(pdq (bK c) d a b lim w1 w2).size=n)
include hl hn Hr Hm
theorem aVe {d:Array Int} {a b lim q:Nat} (hd:d.size=n)(hq:a<=q/\q < b)(hb:b<=n)(hli:lim<=1048576)(hm:b - a<=m)(hnr:b - a<=nr) :
 PqT l o n rr l0 a1 a2 a3 c m (dV rr l0 o n a1 a2 a3 c (wp l o d,(a:Int),(b:Int),(lim:Int),((b - a:Nat):Int),(q:Int)))
  (match partition (bK c) d a b q with
   | (mid,alreadyPartitioned,d4) =>
    if _h:a<=mid/\mid < b then
     if mid - a < b - mid then pdq (bK c) (pdq (bK c) d4 a mid lim true true) (mid+1) b lim (decide (mid - a≥(b - a) / 8)) alreadyPartitioned
     else pdq (bK c) (pdq (bK c) d4 (mid+1) b lim true true) a mid lim (decide (b - mid≥(b - a) / 8)) alreadyPartitioned
    else d4):=by
 have hp:aM (wp l o d) o n (a:Int) (b:Int) (q:Int) ((c.1.1,c.1.2.1,(wp l o d,c.1.2.2.2)),c.2)=_:=aOd (l:=l) (c:=((c.1.1,c.1.2.1,(wp l o d,c.1.2.2.2)),c.2)) hl hn hd hq.1 hq.2 hb
 obtain⟨r1,r2,r3,_⟩:=partition_holds (lt:=bK c) (mK c) d a b q hq.1 hq.2 (by omega)
 have hp':aM (wp l o d) o n (a:Int) (b:Int) (q:Int) ((c.1.1,c.1.2.1,(wp l o d,c.1.2.2.2)),c.2)=(((partition (bK c) d a b q).1:Int),(partition (bK c) d a b q).2.1,wp l o (partition (bK c) d a b q).2.2):=hp
 clear hp
 generalize partition (bK c) d a b q=pt at hp' r1 r2 r3 ⊢
 obtain⟨mid,ap,d4⟩:=pt
 dsimp only at hp' r1 r2 r3 ⊢
 have hd4:d4.size=n:=by rw [r3.1];exact hd
 rw [dif_pos ⟨r1,r2⟩]
 have e8:W (Int.tdiv ((b - a:Nat):Int) 8)=(((b - a) / 8:Nat):Int):=by rw [Int.tdiv_eq_ediv_of_nonneg (by omega)];exact wN (by omega) (by omega)
 unfold PqT
 simp only [dV,hp',e8,wN (x:=(mid:Int) - (a:Int)) (n:=mid - a) (by omega) (by omega),wN (x:=(b:Int) - (mid:Int)) (n:=b - mid) (by omega) (by omega),wN (x:=(mid:Int)+1) (n:=mid+1) (by omega) (by omega)]
 by_cases h:mid - a < b - mid
 ·rw [cI (show((mid - a:Nat):Int) < ((b - mid:Nat):Int) by omega),cond_true,if_pos h]
  have h1:=Hr ((c.1.1,c.1.2.1,(wp l o d4,c.1.2.2.2)),c.2) d4 a mid lim hd4 r1 (by omega) hli (by omega)
  rw [h1.1]
  have hd5:decide (((mid - a:Nat):Int)≥(((b - a) / 8:Nat):Int))=decide (mid - a≥(b - a) / 8):=by
   by_cases h8:mid - a≥(b - a) / 8
   ·rw [cI h8];exact cI (by omega)
   ·rw [dA h8];exact dA (by omega)
  rw [hd5]
  exact Hm (pdq (bK c) d4 a mid lim true true) (mid+1) b lim _ _ h1.2 (by omega) hb hli (by omega) (by omega)
 ·rw [dA (show ¬((mid - a:Nat):Int) < ((b - mid:Nat):Int) by omega),cond_false,if_neg h]
  have h1:=Hr ((c.1.1,c.1.2.1,(wp l o d4,c.1.2.2.2)),c.2) d4 (mid+1) b lim hd4 (by omega) hb hli (by omega)
  rw [h1.1]
  have hd5:decide (((b - mid:Nat):Int)≥(((b - a) / 8:Nat):Int))=decide (b - mid≥(b - a) / 8):=by
   by_cases h8:b - mid≥(b - a) / 8
   ·rw [cI h8];exact cI (by omega)
   ·rw [dA h8];exact dA (by omega)
  rw [hd5]
  exact Hm (pdq (bK c) d4 (mid+1) b lim true true) a mid lim _ _ h1.2 (by omega) (by omega) hli (by omega) (by omega)
theorem aSt {d:Array Int} {a b lim q:Nat} {w1 w2:Bool} (hd:d.size=n)(hq:a<=q/\q < b)(hb:b<=n)(hli:lim<=1048576)(hm:b - a<=m)(hnr:b - a<=nr) :
 PqT l o n rr l0 a1 a2 a3 c m (bO rr l0 o n a1 a2 a3 c (wp l o d,(a:Int),(b:Int),(lim:Int),w1,w2,((b - a:Nat):Int),(q:Int)))
  (if a > 0&&!bK c d[a - 1]! d[q]! then
   match partitionEqual (bK c) d a b q with
   | (mid,d4)=>if _h:a < mid/\mid<=b then pdq (bK c) d4 mid b lim w1 w2 else d4
  else match partition (bK c) d a b q with
   | (mid,alreadyPartitioned,d4) =>
    if _h:a<=mid/\mid < b then
     if mid - a < b - mid then pdq (bK c) (pdq (bK c) d4 a mid lim true true) (mid+1) b lim (decide (mid - a≥(b - a) / 8)) alreadyPartitioned
     else pdq (bK c) (pdq (bK c) d4 (mid+1) b lim true true) a mid lim (decide (b - mid≥(b - a) / 8)) alreadyPartitioned
    else d4):=by
 have h20:=aVe (a1:=a1) (a2:=a2) (a3:=a3) (l0:=l0) (c:=c) hl hn Hr Hm hd hq hb hli hm hnr
 have hl':o+d.size<=l.length:=by omega
 unfold PqT at h20 ⊢
 simp only [bO,gQ]
 by_cases h0:a > 0
 ·rw [cI (show(a:Int) > 0 by omega),cond_true,wN (x:=(a:Int) - 1) (n:=a - 1) (by omega) (by omega),fT,fT,cU hl' (by omega),cU hl' (by omega),cI h0,Bool.true_and]
  cases hc:bK c d[a - 1]! d[q]! with
  | true=>exact h20
  | false =>
   rw [Bool.not_false,cond_true,if_pos rfl]
   have hp:dC (wp l o d) o n (a:Int) (b:Int) (q:Int) ((c.1.1,c.1.2.1,(wp l o d,c.1.2.2.2)),c.2)=(((partitionEqual (bK c) d a b q).1:Int),wp l o (partitionEqual (bK c) d a b q).2):=aOe (l:=l) (c:=((c.1.1,c.1.2.1,(wp l o d,c.1.2.2.2)),c.2)) hl hn hd hq.1 hq.2 hb
   obtain⟨r1,r2,r3⟩:=aK8 (d:=d) (bK c) (a:=a) (b:=b) (q:=q) hq.1 hq.2 (by omega)
   generalize partitionEqual (bK c) d a b q=pt at hp r1 r2 r3 ⊢
   obtain⟨mid,d4⟩:=pt
   dsimp only at hp r1 r2 r3 ⊢
   rw [dif_pos ⟨r1,r2⟩,hp]
   exact Hm d4 mid b lim w1 w2 (by rw [r3.1];exact hd) r2 hb hli (by omega) (by omega)
 ·rw [dA (show ¬(a:Int) > 0 by omega),cond_false,dA h0,Bool.false_and,if_neg Bool.false_ne_true]
  exact h20
theorem aOo {d:Array Int} {a b lim q:Nat} {w1 w2:Bool} {hi:Hint} (hd:d.size=n)(hq:a<=q/\q < b)(hb:b<=n)(hli:lim<=1048576)(hm:b - a<=m)(hnr:b - a<=nr) :
 PqT l o n rr l0 a1 a2 a3 c m (bX rr l0 o n a1 a2 a3 c (wp l o d,(a:Int),(b:Int),(lim:Int),w1,w2,((b - a:Nat):Int),(q:Int),aK4 hi))
  (let pi:=if w1&&w2&&hi=.increasing then partialInsertionSort (bK c) d a b else(d,false)
  if pi.2 then pi.1 else
  if a > 0&&!bK c pi.1[a - 1]! pi.1[q]! then
   match partitionEqual (bK c) pi.1 a b q with
   | (mid,d4)=>if _h:a < mid/\mid<=b then pdq (bK c) d4 mid b lim w1 w2 else d4
  else match partition (bK c) pi.1 a b q with
   | (mid,alreadyPartitioned,d4) =>
    if _h:a<=mid/\mid < b then
     if mid - a < b - mid then pdq (bK c) (pdq (bK c) d4 a mid lim true true) (mid+1) b lim (decide (mid - a≥(b - a) / 8)) alreadyPartitioned
     else pdq (bK c) (pdq (bK c) d4 (mid+1) b lim true true) a mid lim (decide (b - mid≥(b - a) / 8)) alreadyPartitioned
    else d4):=by
 have h17:=aSt (a1:=a1) (a2:=a2) (a3:=a3) (l0:=l0) (c:=c) (w1:=w1) (w2:=w2) hl hn Hr Hm hd hq hb hli hm hnr
 have hno:(w1&&w2&&decide (hi=.increasing))=false->PqT l o n rr l0 a1 a2 a3 c m (bO rr l0 o n a1 a2 a3 c (wp l o d,(a:Int),(b:Int),(lim:Int),w1,w2,((b - a:Nat):Int),(q:Int)))
  (let pi:=if w1&&w2&&hi=.increasing then partialInsertionSort (bK c) d a b else(d,false)
  if pi.2 then pi.1 else
  if a > 0&&!bK c pi.1[a - 1]! pi.1[q]! then
   match partitionEqual (bK c) pi.1 a b q with
   | (mid,d4)=>if _h:a < mid/\mid<=b then pdq (bK c) d4 mid b lim w1 w2 else d4
  else match partition (bK c) pi.1 a b q with
   | (mid,alreadyPartitioned,d4) =>
    if _h:a<=mid/\mid < b then
     if mid - a < b - mid then pdq (bK c) (pdq (bK c) d4 a mid lim true true) (mid+1) b lim (decide (mid - a≥(b - a) / 8)) alreadyPartitioned
     else pdq (bK c) (pdq (bK c) d4 (mid+1) b lim true true) a mid lim (decide (b - mid≥(b - a) / 8)) alreadyPartitioned
    else d4):=fun h=>by rw [h];exact h17
 simp only [bX]
 cases w1 with
 | false=>exact hno rfl
 | true =>
  cases w2 with
  | false=>exact hno rfl
  | true =>
   rw [cond_true,cond_true]
   cases hi with
   | unknown=>exact hno rfl
   | decreasing=>exact hno rfl
   | increasing =>
    have hp:cS (wp l o d) o n (a:Int) (b:Int) ((c.1.1,c.1.2.1,(wp l o d,c.1.2.2.2)),c.2)=((partialInsertionSort (bK c) d a b).2,wp l o (partialInsertionSort (bK c) d a b).1)/\(partialInsertionSort (bK c) d a b).1.size=n:=aOg (l:=l) (c:=((c.1.1,c.1.2.1,(wp l o d,c.1.2.2.2)),c.2)) hl hn hd (by omega) hb
    rw [hp.1]
    show PqT l o n rr l0 a1 a2 a3 c m (bif (partialInsertionSort (bK c) d a b).2 then .inr (wp l o (partialInsertionSort (bK c) d a b).1) else _) (let pi:=partialInsertionSort (bK c) d a b;_)
    generalize partialInsertionSort (bK c) d a b=pt at hp ⊢
    obtain⟨d3,fin⟩:=pt
    dsimp only at hp ⊢
    cases fin with
    | true=>exact⟨rfl,hp.2⟩
    | false=>exact aSt (a1:=a1) (a2:=a2) (a3:=a3) (l0:=l0) (c:=c) (w1:=true) (w2:=true) hl hn Hr Hm hp.2 hq hb hli hm hnr
theorem aWn {d:Array Int} {a b lim:Nat} {w1 w2:Bool} (hd:d.size=n)(hab:a<=b)(hb:b<=n)(hli:lim<=1048576)(hm:b - a<=m)(hnr:b - a<=nr) :
 PqT l o n rr l0 a1 a2 a3 c m (bL rr l0 o n a1 a2 a3 c (wp l o d,(a:Int),(b:Int),(lim:Int),w1,w2)) (pdq (bK c) d a b lim w1 w2):=by
 have hw:W ((b:Int) - (a:Int))=((b - a:Nat):Int):=wN (by omega) (by omega)
 rw [pdq]
 simp only [bL,hw]
 by_cases h12:b - a<=12
 ·rw [cI (show((b - a:Nat):Int)<=12 by omega),cond_true,if_pos h12]
  have:=aN8 (l:=l) (c:=((c.1.1,c.1.2.1,(wp l o d,c.1.2.2.2)),c.2)) hl hn hb (by omega) hd (a:=a)
  exact⟨this,by rw [(insertionSort_holds (mK c) d a b hab (by omega)).1.1];exact hd⟩
 ·rw [dA (show ¬((b - a:Nat):Int)<=12 by omega),cond_false,if_neg h12]
  by_cases hl0:lim=0
  ·rw [if_pos hl0,show(((lim:Nat):Int) == 0)=true by simp [hl0],cond_true]
   have:=aOc (l:=l) (c:=((c.1.1,c.1.2.1,(wp l o d,c.1.2.2.2)),c.2)) hl hn hab hb hd
   exact⟨this,by rw [(heapSort_holds (mK c) d a b hab (by omega)).1.1];exact hd⟩
  ·rw [if_neg hl0,show(((lim:Nat):Int) == 0)=false by simp [hl0],cond_false]
   have j10:∀(d1:Array Int) (lim:Nat),d1.size=n->lim<=1048576->PqT l o n rr l0 a1 a2 a3 c m (dW rr l0 o n a1 a2 a3 c (wp l o d1,(a:Int),(b:Int),(lim:Int),w1,w2,((b - a:Nat):Int)))
    (let cc:=choosePivot (bK c) d1 a b
    let d2:=if cc.2=.decreasing then reverseRange d1 a b else d1
    let pivot:=if cc.2=.decreasing then(b - 1) - (cc.1 - a) else cc.1
    let hint:=if cc.2=.decreasing then Hint.increasing else cc.2
    let pi:=if w1&&w2&&hint=.increasing then partialInsertionSort (bK c) d2 a b else(d2,false)
    if pi.2 then pi.1 else
    if a > 0&&!bK c pi.1[a - 1]! pi.1[pivot]! then
     match partitionEqual (bK c) pi.1 a b pivot with
     | (mid,d4)=>if _h:a < mid/\mid<=b then pdq (bK c) d4 mid b lim w1 w2 else d4
    else match partition (bK c) pi.1 a b pivot with
     | (mid,alreadyPartitioned,d4) =>
      if _h:a<=mid/\mid < b then
       if mid - a < b - mid then pdq (bK c) (pdq (bK c) d4 a mid lim true true) (mid+1) b lim (decide (mid - a≥(b - a) / 8)) alreadyPartitioned
       else pdq (bK c) (pdq (bK c) d4 (mid+1) b lim true true) a mid lim (decide (b - mid≥(b - a) / 8)) alreadyPartitioned
      else d4):=fun d1 lim hd1 hli=>by
    have hc:bD (wp l o d1) o n (a:Int) (b:Int) ((c.1.1,c.1.2.1,(wp l o d1,c.1.2.2.2)),c.2)=(((choosePivot (bK c) d1 a b).1:Int),aK4 (choosePivot (bK c) d1 a b).2):=aOk (l:=l) (c:=((c.1.1,c.1.2.1,(wp l o d1,c.1.2.2.2)),c.2)) hl hn hd1 (by omega) hb
    have hr:=choosePivot_holds (bK c) d1 a b (by omega)
    simp only [dW,hc]
    generalize choosePivot (bK c) d1 a b=pt at hr ⊢
    obtain⟨q,hi⟩:=pt
    dsimp only at hr ⊢
    cases hi with
    | unknown=>exact aOo (hi:=.unknown) (a1:=a1) (a2:=a2) (a3:=a3) (l0:=l0) (c:=c) hl hn Hr Hm hd1 hr hb hli hm hnr
    | increasing=>exact aOo (hi:=.increasing) (a1:=a1) (a2:=a2) (a3:=a3) (l0:=l0) (c:=c) hl hn Hr Hm hd1 hr hb hli hm hnr
    | decreasing =>
     have hv:=aN9 (l:=l) (c:=((c.1.1,c.1.2.1,(wp l o d1,c.1.2.2.2)),c.2)) hl hn (a:=a) (b:=b) (by omega) hb hd1
     have e1:W ((W ((b:Int) - 1)) - (W ((q:Int) - (a:Int))))=(((b - 1) - (q - a):Nat):Int):=by
      rw [wN (x:=(b:Int) - 1) (n:=b - 1) (by omega) (by omega),wN (x:=(q:Int) - (a:Int)) (n:=q - a) (by omega) (by omega)];exact wN (by omega) (by omega)
     show PqT l o n rr l0 a1 a2 a3 c m (bX rr l0 o n a1 a2 a3 c ((eY (wp l o d1) o n (a:Int) (b:Int) ((c.1.1,c.1.2.1,(wp l o d1,c.1.2.2.2)),c.2)),(a:Int),(b:Int),(lim:Int),w1,w2,((b - a:Nat):Int),(W ((W ((b:Int) - 1)) - (W ((q:Int) - (a:Int))))),1)) _
     rw [hv,e1]
     exact aOo (hi:=.increasing) (a1:=a1) (a2:=a2) (a3:=a3) (l0:=l0) (c:=c) hl hn Hr Hm (by rw [(reverseRange_holds d1 a b hab (by omega)).1];exact hd1) (by omega) hb hli hm hnr
   cases w1 with
   | true=>exact j10 d lim hd hli
   | false =>
    have hv:=aOm (l:=l) (c:=((c.1.1,c.1.2.1,(wp l o d,c.1.2.2.2)),c.2)) hl hn hd hab hb
    rw [wN (x:=(lim:Int) - 1) (n:=lim - 1) (by omega) (by omega),hv]
    exact j10 (breakPatterns d a b) (lim - 1) (by rw [(breakPatterns_holds d a b hab (by omega)).1];exact hd) (by omega)
omit Hr Hm in
theorem aOp:∀(nr:Nat) (c:qT) (d:Array Int) (a b lim:Nat),d.size=n->a<=b->b<=n->lim<=1048576->b - a < nr ->
 aV nr (wp l o d) o n (a:Int) (b:Int) (lim:Int) c=wp l o (pdq (bK c) d a b lim true true)/\(pdq (bK c) d a b lim true true).size=n
 | 0,_,_,_,_,_,_,_,_,_,h=>absurd h (eL _)
 | nr+1,c,d,a,b,lim,hd,hab,hb,hli,hnr=>by
  have Hr:=fun(c:qT) (d:Array Int) (a b lim:Nat) h1 h2 h3 h4 h5=>aOp nr c d a b lim h1 h2 h3 h4 h5
  unfold aV
  have lp:∀(m:Nat) (d':Array Int) (a' b' lim':Nat) (w1 w2:Bool),d'.size=n->a'<=b'->b'<=n->lim'<=1048576->b' - a' < m->b' - a'<=nr ->
   aH (bL (aV nr) (wp l o d) o n (a:Int) (b:Int) (lim:Int) c) m (wp l o d',(a':Int),(b':Int),(lim':Int),w1,w2)=wp l o (pdq (bK c) d' a' b' lim' w1 w2)/\(pdq (bK c) d' a' b' lim' w1 w2).size=n:=by
   intro m
   induction m with
   | zero=>intro _ _ _ _ _ _ _ _ _ _ h;exact absurd h (eL _)
   | succ m ih =>
    intro d' a' b' lim' w1 w2 h1 h2 h3 h4 h5 h6
    rw [aK]
    exact aWn (rr:=aV nr) (nr:=nr) hl hn Hr ih h1 h2 h3 h4 (by omega) h6
  exact lp _ d a b lim true true hd hab hb hli (by omega) (by omega)
end
end Go.Proofs.YtkdfcbmcgnaicaaGreat
namespace Go.Proofs.YtkdfcbmcgnaicaaGreat
open Go.Proofs Go.Aw Go.RowKit
set_option maxRecDepth 100000
def iR (a0:List Int)(a0_o:Nat)(a0_n:Nat)(a1:eK×Int):List Int :=
 (sF a0 a0_o a0_n 0 ((a0_n:Nat):Int) (F94 (IntKind.wrap .u64 ((a0_n:Nat):Int))) ((a1.1.1,a1.1.2.1,(a0,a1.1.2.2.2)),a1.2))
theorem aMk (a0:List Int)(a0_o:Nat)(a0_n:Nat)(a1:eK×Int)(l0:a0.length<=2^63-1)(l1_1_1:a1.1.1.length<=2^63-1)(l1_1_2_2_1:a1.1.2.2.1.length<=2^63-1)(l1_1_2_2_2:a1.1.2.2.2.length<=2^63-1)(hw:a0_o+a0_n<=a0.length/\a0.length<=1048576)(hr:InR a1.1.1.length a0):Con Tryz.prog 73 [(.s 0 (0+a0_o*1) a0_n 1),(.f 1000075 [(.a [(.p 1 0),(iv a1.2)])])] [(.live true true (flat c3 a0)),(.live false false [(.s 2 0 a1.1.1.length 10),(iv a1.1.2.1),(.s 0 0 a0.length 1),(.s 3 0 a1.1.2.2.2.length 8)]),(.live false true (flat dI a1.1.1)),(.live false true (flat bZ a1.1.2.2.2))] (.t []) [] [(.live true true (flat c3 (iR a0 a0_o a0_n a1))),.un,.un,.un]:=by
 refine bA Tryz.func73 (by kernel_rfl) fun cx hcx=>?_
 have e:=Eq.refl (iR a0 a0_o a0_n a1);conv at e=>rhs;simp only [iR]
 rw [e]
 try dsimp only [aZ]
 try dsimp only
 try rw [show List.length (α:=Int) (sF a0 a0_o a0_n 0 ((a0_n:Nat):Int) (F94 (IntKind.wrap .u64 ((a0_n:Nat):Int))) ((a1.1.1,a1.1.2.1,(a0,a1.1.2.2.2)),a1.2))=a0.length from by first | simp;done | omega]
 exact rtn [.c [] (C94 (IntKind.wrap .u64 ((a0_n:Nat):Int))  (by rw [IntKind.wrap_u64];omega)),.c [0,1,2,3] (aMj a0 a0_o a0_n 0 ((a0_n:Nat):Int) (F94 (IntKind.wrap .u64 ((a0_n:Nat):Int))) ((a1.1.1,a1.1.2.1,(a0,a1.1.2.2.2)),a1.2) (by omega) (by omega) (by omega) (by omega) hw hr (by omega))] [] [0] [] hcx (by kernel_rfl)
def kL (a0:Zt×Zt×Zt):Zt×Zt×Zt :=
 a0
theorem C88 (a0:Zt×Zt×Zt):Con Tryz.prog 88 [(.a (k9 a0))] [] (.a (k9 (kL a0))) []:=by
 refine bA Tryz.func88 (by kernel_rfl) fun cx hcx=>?_
 have e:=Eq.refl (kL a0);conv at e=>rhs;simp only [kL]
 rw [e]
 exact rt [] [] [] hcx (by kernel_rfl)
def F89 (a0:Int):Int :=
 (Int.fdiv a0 (2 ^ (min (tN 1) 64)))
theorem C89 (a0:Int):Con Tryz.prog 89 [(iv a0)] [] (iv (F89 a0)) []:=by
 refine bA Tryz.func89 (by kernel_rfl) fun cx hcx=>?_
 have e:=Eq.refl (F89 a0);conv at e=>rhs;simp only [F89]
 rw [e]
 exact rt [.p (show 0<=(1:Int) from by decide)] [] [] hcx (by kernel_rfl)
noncomputable def wV:Code:=(aN [1,1,0,1] [] (aL Tryz.f70) []).1
noncomputable def wW:List K:=(aN [1,1,0,1] [] (aL Tryz.f70) []).2
def tW (a0:bT)(a1:List Int)(v2c:List SV)(v2n:Nat)(v3:Int):LS:=⟨gO 23 [(0,(.s 0 0 a0.length 10)),(5,(.s 2 0 v2n 10)),(8,(.s 1 0 a1.length 1)),(9,(iv (a1.length:Int))),(10,(iv v3))],[(.live false true (flat dI a0)),(.live false true (flat c3 a1)),(.live true true v2c)]⟩
def fY (a0:bT)(a1:List Int):bT×Int->(bT×Int)⊕bT
 | (v2,v3) =>
  (bif (decide ((v3:Int) < (a1.length:Int))) then
   (.inl ((v2++[(a0.getD (tN (a1.getD (tN v3) dF)) dF)]),(v3+1)))
  else
   (.inr v2))
theorem aMl (a0:bT)(a1:List Int)(l0:a0.length<=2^63-1)(l1:a1.length<=2^63-1)(hir:InR a0.length a1)(hl:a1.length<=1048576) {cx:Cx} (hcx:cx.base=2):∀(n:Nat) (v2:bT) (v3:Int),(0<=v3)/\(v2.length=tN v3)/\(v3<=a1.length)->tN ((a1.length:Int) - v3) < n->Aw.Good Tryz.prog none 9 (bodyPost Tryz.prog Tryz.f70 (RR cx (.s 2 0 (aH (fY a0 a1) n (v2,v3)).length 10) [(.live true true (flat dI (aH (fY a0 a1) n (v2,v3))))] [])) cx [] (.l wV n::wW) (tW a0 a1 (flat dI v2) v2.length v3):=by
 intro n
 induction n with
 | zero=>intro v2 v3 hi hn;exact absurd hn (eL _)
 | succ n ih =>
  intro v2 v3 hi hn
  refine aS ?_
  cases h0:(decide ((v3:Int) < (a1.length:Int))) with
  | true =>
   have q0:=cN h0
   try have hr1:=hir.at (i:=tN v3) (by have _:=h0;omega)
   have e:=Eq.refl (fY a0 a1 (v2,v3));conv at e=>rhs;simp only [fY,h0,aW]
   rw [aI e]
   refine ba [.d h0,.i v3 (a1.length),.L aF a1 v3 0 1,.i (a1.getD (tN v3) dF) (a0.length),.L eM a0 (a1.getD (tN v3) dF) 0 10,.p (show((flat dI v2).length=v2.length*10/\v2.length+1<=2 ^ 40/\(v2.length+1)*80<=2 ^ 47) from nX eM (by omega) (by omega))] [] [0,5,8,9,10] [4] hcx (m:=n) wV (wW) (tW a0 a1 (flat dI v2++[(iv (a0.getD (tN (a1.getD (tN v3) dF)) dF).1.1.1),(iv (a0.getD (tN (a1.getD (tN v3) dF)) dF).1.1.2.1),(iv (a0.getD (tN (a1.getD (tN v3) dF)) dF).1.1.2.2),(iv (a0.getD (tN (a1.getD (tN v3) dF)) dF).1.2.1.1),(iv (a0.getD (tN (a1.getD (tN v3) dF)) dF).1.2.1.2.1),(iv (a0.getD (tN (a1.getD (tN v3) dF)) dF).1.2.1.2.2),(iv (a0.getD (tN (a1.getD (tN v3) dF)) dF).1.2.2.1),(iv (a0.getD (tN (a1.getD (tN v3) dF)) dF).1.2.2.2.1),(iv (a0.getD (tN (a1.getD (tN v3) dF)) dF).1.2.2.2.2),(iv (a0.getD (tN (a1.getD (tN v3) dF)) dF).2)]) (v2.length+1) (W (v3+1))) (by kernel_rfl) ?_
   have z0:(W (v3+1))=(v3+1):=aR (by omega) (by omega)
   have z1:(flat dI v2++[(iv (a0.getD (tN (a1.getD (tN v3) dF)) dF).1.1.1),(iv (a0.getD (tN (a1.getD (tN v3) dF)) dF).1.1.2.1),(iv (a0.getD (tN (a1.getD (tN v3) dF)) dF).1.1.2.2),(iv (a0.getD (tN (a1.getD (tN v3) dF)) dF).1.2.1.1),(iv (a0.getD (tN (a1.getD (tN v3) dF)) dF).1.2.1.2.1),(iv (a0.getD (tN (a1.getD (tN v3) dF)) dF).1.2.1.2.2),(iv (a0.getD (tN (a1.getD (tN v3) dF)) dF).1.2.2.1),(iv (a0.getD (tN (a1.getD (tN v3) dF)) dF).1.2.2.2.1),(iv (a0.getD (tN (a1.getD (tN v3) dF)) dF).1.2.2.2.2),(iv (a0.getD (tN (a1.getD (tN v3) dF)) dF).2)])=(flat dI (v2++[(a0.getD (tN (a1.getD (tN v3) dF)) dF)])):=(dP (c:=dI) (l:=v2) (m:=[(a0.getD (tN (a1.getD (tN v3) dF)) dF)])).symm
   have z2:(v2.length+1)=(v2++[(a0.getD (tN (a1.getD (tN v3) dF)) dF)]).length:=uZ v2 [(a0.getD (tN (a1.getD (tN v3) dF)) dF)] rfl
   rw [z0,z1,z2]
   exact ih (v2++[(a0.getD (tN (a1.getD (tN v3) dF)) dF)]) (v3+1) (by refine⟨?_,?_,?_⟩<;>(try simp only [Ls])<;>first | omega | assumption | simp) (by omega)
  | false =>
   have q0:=cY h0
   have e:=Eq.refl (fY a0 a1 (v2,v3));conv at e=>rhs;simp only [fY,h0,aW]
   rw [aK,e]
   exact rt [.d h0] [] [2] hcx (by kernel_rfl)
def gR (a0:bT)(a1:List Int):bT :=
 (aH (fY a0 a1) (tN ((a1.length:Int) - 0)+1) (([]:bT),0))
theorem aQy (a0:bT)(a1:List Int)(l0:a0.length<=2^63-1)(l1:a1.length<=2^63-1)(hir:InR a0.length a1)(hl:a1.length<=1048576):Con Tryz.prog 70 [(.s 0 0 a0.length 10),(.s 1 0 a1.length 1)] [(.live false true (flat dI a0)),(.live false true (flat c3 a1))] (.s 2 0 (gR a0 a1).length 10) [(.live true true (flat dI (gR a0 a1)))]:=by
 refine bA Tryz.func70 (by kernel_rfl) fun cx hcx=>?_
 have e:=Eq.refl (gR a0 a1);conv at e=>rhs;simp only [gR]
 rw [e]
 refine en [] [.slot 5 10] [0,5,8,9,10] [2] hcx wV (wW) (tW a0 a1 (flat dI ([]:bT)) 0 0) (tN ((a1.length:Int) - 0)+1) (by kernel_rfl) ?_
 exact aMl a0 a1 l0 l1 hir hl hcx (tN ((a1.length:Int) - 0)+1) ([]:bT) 0 (by refine⟨?_,?_,?_⟩<;>(try simp only [Ls])<;>first | omega | assumption | simp) (by omega)
noncomputable def aEj:Code:=(aN [1,1,0,1] [] (aL Tryz.f71) []).1
noncomputable def aEk:List K:=(aN [1,1,0,1] [] (aL Tryz.f71) []).2
def aA4 (a0:bT)(v1 v2 v3 v4 v5 v6 v7:Int):LS:=⟨gO 84 [(2,(.p 1 0)),(3,(.p 2 0)),(4,(.p 3 0)),(19,(.s 0 0 a0.length 10)),(20,(iv (a0.length:Int))),(21,(iv v1))],[(.live false true (flat dI a0)),(.live true false [(iv 0),(iv 0),(iv 0)]),(.live true false [(iv v2),(iv v3),(iv v4)]),(.live true false [(iv v5),(iv v6),(iv v7)])]⟩
def iS (a0:bT):Int×Int×Int×Int×Zt->(Int×Int×Int×Int×Zt)⊕Zt
 | (v1,v2,v3,v4,v5,v6,v7) =>
  (bif (decide ((v1:Int) < (a0.length:Int))) then
   (.inl ((v1+1),(gW (gW (gW v2 (kL (a0.getD (tN v1) dF).1).1.1) (kL (a0.getD (tN v1) dF).1).2.1.1) (kL (a0.getD (tN v1) dF).1).2.2.1),(gW (gW (gW v3 (kL (a0.getD (tN v1) dF).1).1.2.1) (kL (a0.getD (tN v1) dF).1).2.1.2.1) (kL (a0.getD (tN v1) dF).1).2.2.2.1),(gW (gW (gW v4 (kL (a0.getD (tN v1) dF).1).1.2.2) (kL (a0.getD (tN v1) dF).1).2.1.2.2) (kL (a0.getD (tN v1) dF).1).2.2.2.2),(cZ (cZ (cZ v5 (kL (a0.getD (tN v1) dF).1).1.1) (kL (a0.getD (tN v1) dF).1).2.1.1) (kL (a0.getD (tN v1) dF).1).2.2.1),(cZ (cZ (cZ v6 (kL (a0.getD (tN v1) dF).1).1.2.1) (kL (a0.getD (tN v1) dF).1).2.1.2.1) (kL (a0.getD (tN v1) dF).1).2.2.2.1),(cZ (cZ (cZ v7 (kL (a0.getD (tN v1) dF).1).1.2.2) (kL (a0.getD (tN v1) dF).1).2.1.2.2) (kL (a0.getD (tN v1) dF).1).2.2.2.2)))
  else
   (.inr ((F89 (W (v2+v5))),(F89 (W (v3+v6))),(F89 (W (v4+v7))))))
theorem aQz (a0:bT)(l0:a0.length<=2^63-1)(hl:1<=a0.length/\a0.length<=1048576) {cx:Cx} (hcx:cx.base=1):∀(n:Nat) (v1 v2 v3 v4 v5 v6 v7:Int),(0<=v1)/\(v1<=a0.length)->tN ((a0.length:Int) - v1) < n->Aw.Good Tryz.prog none 9 (bodyPost Tryz.prog Tryz.f71 (RR cx (.a (k3 (aH (iS a0) n (v1,v2,v3,v4,v5,v6,v7)))) [] [])) cx [] (.l aEj n::aEk) (aA4 a0 v1 v2 v3 v4 v5 v6 v7):=by
 intro n
 induction n with
 | zero=>intro v1 v2 v3 v4 v5 v6 v7 hi hn;exact absurd hn (eL _)
 | succ n ih =>
  intro v1 v2 v3 v4 v5 v6 v7 hi hn
  refine aS ?_
  cases h0:(decide ((v1:Int) < (a0.length:Int))) with
  | true =>
   have q0:=cN h0
   have e:=Eq.refl (iS a0 (v1,v2,v3,v4,v5,v6,v7));conv at e=>rhs;simp only [iS,h0,aW]
   rw [aI e]
   refine ba [.d h0,.i v1 (a0.length),.L eM a0 v1 0 10,.c [] (C88 (a0.getD (tN v1) dF).1),.u 200,.T,.i 0 3 (by decide),.u 0,.T,.i 1 3 (by decide),.u 0,.T,.i 2 3 (by decide),.u 0,.F] [] [2,3,4,19,20,21] [1,2,3] hcx (m:=n) aEj (aEk) (aA4 a0 (W (v1+1)) (gW (gW (gW v2 (kL (a0.getD (tN v1) dF).1).1.1) (kL (a0.getD (tN v1) dF).1).2.1.1) (kL (a0.getD (tN v1) dF).1).2.2.1) (gW (gW (gW v3 (kL (a0.getD (tN v1) dF).1).1.2.1) (kL (a0.getD (tN v1) dF).1).2.1.2.1) (kL (a0.getD (tN v1) dF).1).2.2.2.1) (gW (gW (gW v4 (kL (a0.getD (tN v1) dF).1).1.2.2) (kL (a0.getD (tN v1) dF).1).2.1.2.2) (kL (a0.getD (tN v1) dF).1).2.2.2.2) (cZ (cZ (cZ v5 (kL (a0.getD (tN v1) dF).1).1.1) (kL (a0.getD (tN v1) dF).1).2.1.1) (kL (a0.getD (tN v1) dF).1).2.2.1) (cZ (cZ (cZ v6 (kL (a0.getD (tN v1) dF).1).1.2.1) (kL (a0.getD (tN v1) dF).1).2.1.2.1) (kL (a0.getD (tN v1) dF).1).2.2.2.1) (cZ (cZ (cZ v7 (kL (a0.getD (tN v1) dF).1).1.2.2) (kL (a0.getD (tN v1) dF).1).2.1.2.2) (kL (a0.getD (tN v1) dF).1).2.2.2.2)) (by kernel_rfl) ?_
   have z0:(W (v1+1))=(v1+1):=aR (by omega) (by omega)
   rw [z0]
   exact ih (v1+1) (gW (gW (gW v2 (kL (a0.getD (tN v1) dF).1).1.1) (kL (a0.getD (tN v1) dF).1).2.1.1) (kL (a0.getD (tN v1) dF).1).2.2.1) (gW (gW (gW v3 (kL (a0.getD (tN v1) dF).1).1.2.1) (kL (a0.getD (tN v1) dF).1).2.1.2.1) (kL (a0.getD (tN v1) dF).1).2.2.2.1) (gW (gW (gW v4 (kL (a0.getD (tN v1) dF).1).1.2.2) (kL (a0.getD (tN v1) dF).1).2.1.2.2) (kL (a0.getD (tN v1) dF).1).2.2.2.2) (cZ (cZ (cZ v5 (kL (a0.getD (tN v1) dF).1).1.1) (kL (a0.getD (tN v1) dF).1).2.1.1) (kL (a0.getD (tN v1) dF).1).2.2.1) (cZ (cZ (cZ v6 (kL (a0.getD (tN v1) dF).1).1.2.1) (kL (a0.getD (tN v1) dF).1).2.1.2.1) (kL (a0.getD (tN v1) dF).1).2.2.2.1) (cZ (cZ (cZ v7 (kL (a0.getD (tN v1) dF).1).1.2.2) (kL (a0.getD (tN v1) dF).1).2.1.2.2) (kL (a0.getD (tN v1) dF).1).2.2.2.2) (by refine⟨?_,?_⟩<;>(try simp only [Ls])<;>first | omega | assumption | simp) (by omega)
  | false =>
   have q0:=cY h0
   have e:=Eq.refl (iS a0 (v1,v2,v3,v4,v5,v6,v7));conv at e=>rhs;simp only [iS,h0,aW]
   rw [aK,e]
   exact rt [.d h0,.c [] (C89 (W (v2+v5))),.c [] (C89 (W (v3+v6))),.c [] (C89 (W (v4+v7)))] [] [] hcx (by kernel_rfl)
def dX (a0:bT):Zt :=
 (aH (iS a0) (tN ((a0.length:Int) - 0)+1) (0,(a0.getD (tN 0) dF).1.1.1,(a0.getD (tN 0) dF).1.1.2.1,(a0.getD (tN 0) dF).1.1.2.2,(a0.getD (tN 0) dF).1.1.1,(a0.getD (tN 0) dF).1.1.2.1,(a0.getD (tN 0) dF).1.1.2.2))
theorem aVf (a0:bT)(l0:a0.length<=2^63-1)(hl:1<=a0.length/\a0.length<=1048576):Con Tryz.prog 71 [(.s 0 0 a0.length 10)] [(.live false true (flat dI a0))] (.a (k3 (dX a0))) []:=by
 refine bA Tryz.func71 (by kernel_rfl) fun cx hcx=>?_
 have e:=Eq.refl (dX a0);conv at e=>rhs;simp only [dX]
 rw [e]
 refine en [.i 0 (a0.length),.L eM a0 0 0 3,.i 0 (a0.length),.L eM a0 0 0 3] [] [2,3,4,19,20,21] [1,2,3] hcx aEj (aEk) (aA4 a0 0 ((a0.getD (tN 0) dF).1.1.1) ((a0.getD (tN 0) dF).1.1.2.1) ((a0.getD (tN 0) dF).1.1.2.2) ((a0.getD (tN 0) dF).1.1.1) ((a0.getD (tN 0) dF).1.1.2.1) ((a0.getD (tN 0) dF).1.1.2.2)) (tN ((a0.length:Int) - 0)+1) (by kernel_rfl) ?_
 exact aQz a0 l0 hl hcx (tN ((a0.length:Int) - 0)+1) 0 ((a0.getD (tN 0) dF).1.1.1) ((a0.getD (tN 0) dF).1.1.2.1) ((a0.getD (tN 0) dF).1.1.2.2) ((a0.getD (tN 0) dF).1.1.1) ((a0.getD (tN 0) dF).1.1.2.1) ((a0.getD (tN 0) dF).1.1.2.2) (by refine⟨?_,?_⟩<;>(try simp only [Ls])<;>first | omega | assumption | simp) (by omega)
def aA5 (a0:Int)(a1:Int)(a2:Int):Bool :=
 (bif (decide ((a1:Int)<=a0)) then
  (decide ((a0:Int)<=a2))
 else
  false)
theorem aTq (a0:Int)(a1:Int)(a2:Int):Con Tryz.prog 127 [(iv a0),(iv a1),(iv a2)] [] (.v (.bool (aA5 a0 a1 a2))) []:=by
 refine bA Tryz.func127 (by kernel_rfl) fun cx hcx=>?_
 cases h0:(decide ((a1:Int)<=a0)) with
 | true =>
  have q0:=cN h0
  have e:=Eq.refl (aA5 a0 a1 a2);conv at e=>rhs;simp only [aA5,h0,aW]
  rw [e]
  exact rt [.d h0] [] [] hcx (by kernel_rfl)
 | false =>
  have q0:=cY h0
  have e:=Eq.refl (aA5 a0 a1 a2);conv at e=>rhs;simp only [aA5,h0,aW]
  rw [e]
  exact rt [.d h0] [] [] hcx (by kernel_rfl)
def aA6 (a0:Zt)(a1:Int):Bool :=
 (bif (aA5 a0.1 (W (0 - a1)) a1) then
  (bif (aA5 a0.2.1 (W (0 - a1)) a1) then
   (aA5 a0.2.2 (W (0 - a1)) a1)
  else
   false)
 else
  false)
theorem aWo (a0:Zt)(a1:Int):Con Tryz.prog 108 [(.a (k3 a0)),(iv a1)] [] (.v (.bool (aA6 a0 a1))) []:=by
 refine bA Tryz.func108 (by kernel_rfl) fun cx hcx=>?_
 let t0:List (St Tryz.prog):=[.c [] (aTq a0.1 (W (0 - a1)) a1)]
 cases h0:(aA5 a0.1 (W (0 - a1)) a1) with
 | true =>
  let t1:List (St Tryz.prog):=(t0++[.d h0,.c [] (aTq a0.2.1 (W (0 - a1)) a1)])
  cases h1:(aA5 a0.2.1 (W (0 - a1)) a1) with
  | true =>
   have e:=Eq.refl (aA6 a0 a1);conv at e=>rhs;simp only [aA6,h0,h1,aW]
   rw [e]
   exact rt (t1++[.d h1,.c [] (aTq a0.2.2 (W (0 - a1)) a1)]) [] [] hcx (by kernel_rfl)
  | false =>
   have e:=Eq.refl (aA6 a0 a1);conv at e=>rhs;simp only [aA6,h0,h1,aW]
   rw [e]
   exact rt (t1++[.d h1]) [] [] hcx (by kernel_rfl)
 | false =>
  have e:=Eq.refl (aA6 a0 a1);conv at e=>rhs;simp only [aA6,h0,aW]
  rw [e]
  exact rt (t0++[.d h0]) [] [] hcx (by kernel_rfl)
def wX (a0:Zt)(a1:Zt):Zt :=
 ((W (a0.1 - a1.1)),(W (a0.2.1 - a1.2.1)),(W (a0.2.2 - a1.2.2)))
theorem C91 (a0:Zt)(a1:Zt):Con Tryz.prog 91 [(.a (k3 a0)),(.a (k3 a1))] [] (.a (k3 (wX a0 a1))) []:=by
 refine bA Tryz.func91 (by kernel_rfl) fun cx hcx=>?_
 have e:=Eq.refl (wX a0 a1);conv at e=>rhs;simp only [wX]
 rw [e]
 exact rt [] [] [] hcx (by kernel_rfl)
def F92 (a0:Zt)(a1:Zt):Int :=
 (W ((W ((W (a0.1*a1.1))+(W (a0.2.1*a1.2.1))))+(W (a0.2.2*a1.2.2))))
theorem C92 (a0:Zt)(a1:Zt):Con Tryz.prog 92 [(.a (k3 a0)),(.a (k3 a1))] [] (iv (F92 a0 a1)) []:=by
 refine bA Tryz.func92 (by kernel_rfl) fun cx hcx=>?_
 have e:=Eq.refl (F92 a0 a1);conv at e=>rhs;simp only [F92]
 rw [e]
 exact rt [] [] [] hcx (by kernel_rfl)
def qU (a0:bT)(a1:Zt):Int :=
 (bif (((iY a0):Int) != 0) then
  (iY a0)
 else
  (bif (!(aA6 a1 64)) then
   1
  else
   0))
theorem aVg (a0:bT)(a1:Zt)(l0:a0.length<=2^63-1):Con Tryz.prog 90 [(.s 0 0 a0.length 10),(.a (k3 a1))] [(.live false true (flat dI a0))] (iv (qU a0 a1)) []:=by
 refine bA Tryz.func90 (by kernel_rfl) fun cx hcx=>?_
 let t0:List (St Tryz.prog):=[.c [0] (aNq a0 (by omega))]
 cases h0:(((iY a0):Int) != 0) with
 | true =>
  have q0:=bne_iff_ne.1 h0
  have e:=Eq.refl (qU a0 a1);conv at e=>rhs;simp only [qU,h0,aW]
  rw [e]
  exact rt (t0++[.d h0]) [] [] hcx (by kernel_rfl)
 | false =>
  have q0:=bne_eq_false_iff_eq.1 h0
  let t1:List (St Tryz.prog):=(t0++[.d h0,.c [] (aWo a1 64)])
  cases h1:(!(aA6 a1 64)) with
  | true =>
   have e:=Eq.refl (qU a0 a1);conv at e=>rhs;simp only [qU,h0,h1,aW]
   rw [e]
   exact rt (t1++[.d h1]) [] [] hcx (by kernel_rfl)
  | false =>
   have e:=Eq.refl (qU a0 a1);conv at e=>rhs;simp only [qU,h0,h1,aW]
   rw [e]
   exact rt (t1++[.d h1]) [] [] hcx (by kernel_rfl)
noncomputable def aEl:Code:=(aN [1,1,1,0,1] [] (aL Tryz.f72) []).1
noncomputable def aEm:List K:=(aN [1,1,1,0,1] [] (aL Tryz.f72) []).2
def aA7 (a0:bT)(a1:Zt)(v1 v2:Int):LS:=⟨gO 49 [(3,(.p 1 0)),(7,(iv v1)),(19,(.s 0 0 a0.length 10)),(20,(iv (a0.length:Int))),(21,(iv v2))],[(.live false true (flat dI a0)),(.live true false (k3 a1))]⟩
def qJ (a0:bT)(a1:Zt):Int×Int->(Int×Int)⊕(Int×Int)
 | (v1,v2) =>
  (bif (decide ((v2:Int) < (a0.length:Int))) then
   (.inl ((cZ (cZ (cZ v1 (F92 (wX (a0.getD (tN v2) dF).1.1 a1) (wX (a0.getD (tN v2) dF).1.1 a1))) (F92 (wX (a0.getD (tN v2) dF).1.2.1 a1) (wX (a0.getD (tN v2) dF).1.2.1 a1))) (F92 (wX (a0.getD (tN v2) dF).1.2.2 a1) (wX (a0.getD (tN v2) dF).1.2.2 a1))),(v2+1)))
  else
   (.inr (v1,0)))
theorem aQ0 (a0:bT)(a1:Zt)(l0:a0.length<=2^63-1)(hl:a0.length<=1048576) {cx:Cx} (hcx:cx.base=1):∀(n:Nat) (v1 v2:Int),(0<=v2)/\(v2<=a0.length)->tN ((a0.length:Int) - v2) < n->Aw.Good Tryz.prog none 9 (bodyPost Tryz.prog Tryz.f72 (RR cx (.t (k2 (aH (qJ a0 a1) n (v1,v2)))) [] [])) cx [] (.l aEl n::aEm) (aA7 a0 a1 v1 v2):=by
 intro n
 induction n with
 | zero=>intro v1 v2 hi hn;exact absurd hn (eL _)
 | succ n ih =>
  intro v1 v2 hi hn
  refine aS ?_
  cases h0:(decide ((v2:Int) < (a0.length:Int))) with
  | true =>
   have q0:=cN h0
   have e:=Eq.refl (qJ a0 a1 (v1,v2));conv at e=>rhs;simp only [qJ,h0,aW]
   rw [aI e]
   refine ba [.d h0,.i v2 (a0.length),.L eM a0 v2 0 10,.u 200,.T,.i 0 3 (by decide),.c [] (C91 (a0.getD (tN v2) dF).1.1 a1),.c [] (C92 (wX (a0.getD (tN v2) dF).1.1 a1) (wX (a0.getD (tN v2) dF).1.1 a1)),.u 0,.T,.i 1 3 (by decide),.c [] (C91 (a0.getD (tN v2) dF).1.2.1 a1),.c [] (C92 (wX (a0.getD (tN v2) dF).1.2.1 a1) (wX (a0.getD (tN v2) dF).1.2.1 a1)),.u 0,.T,.i 2 3 (by decide),.c [] (C91 (a0.getD (tN v2) dF).1.2.2 a1),.c [] (C92 (wX (a0.getD (tN v2) dF).1.2.2 a1) (wX (a0.getD (tN v2) dF).1.2.2 a1)),.u 0,.F] [] [3,7,19,20,21] [1] hcx (m:=n) aEl (aEm) (aA7 a0 a1 (cZ (cZ (cZ v1 (F92 (wX (a0.getD (tN v2) dF).1.1 a1) (wX (a0.getD (tN v2) dF).1.1 a1))) (F92 (wX (a0.getD (tN v2) dF).1.2.1 a1) (wX (a0.getD (tN v2) dF).1.2.1 a1))) (F92 (wX (a0.getD (tN v2) dF).1.2.2 a1) (wX (a0.getD (tN v2) dF).1.2.2 a1))) (W (v2+1))) (by kernel_rfl) ?_
   have z0:(W (v2+1))=(v2+1):=aR (by omega) (by omega)
   rw [z0]
   exact ih (cZ (cZ (cZ v1 (F92 (wX (a0.getD (tN v2) dF).1.1 a1) (wX (a0.getD (tN v2) dF).1.1 a1))) (F92 (wX (a0.getD (tN v2) dF).1.2.1 a1) (wX (a0.getD (tN v2) dF).1.2.1 a1))) (F92 (wX (a0.getD (tN v2) dF).1.2.2 a1) (wX (a0.getD (tN v2) dF).1.2.2 a1))) (v2+1) (by refine⟨?_,?_⟩<;>(try simp only [Ls])<;>first | omega | assumption | simp) (by omega)
  | false =>
   have q0:=cY h0
   have e:=Eq.refl (qJ a0 a1 (v1,v2));conv at e=>rhs;simp only [qJ,h0,aW]
   rw [aK,e]
   exact rt [.d h0] [] [] hcx (by kernel_rfl)
def yG (a0:bT)(a1:Zt):Int×Int :=
 (bif (((qU a0 a1):Int) != 0) then
  (0,(qU a0 a1))
 else
  (aH (qJ a0 a1) (tN ((a0.length:Int) - 0)+1) (0,0)))
theorem aVh (a0:bT)(a1:Zt)(l0:a0.length<=2^63-1)(hl:a0.length<=1048576):Con Tryz.prog 72 [(.s 0 0 a0.length 10),(.a (k3 a1))] [(.live false true (flat dI a0))] (.t (k2 (yG a0 a1))) []:=by
 refine bA Tryz.func72 (by kernel_rfl) fun cx hcx=>?_
 let t0:List (St Tryz.prog):=[.c [0] (aVg a0 a1 (by omega))]
 cases h0:(((qU a0 a1):Int) != 0) with
 | true =>
  have q0:=bne_iff_ne.1 h0
  have e:=Eq.refl (yG a0 a1);conv at e=>rhs;simp only [yG,h0,aW]
  rw [e]
  exact rt (t0++[.d h0]) [] [] hcx (by kernel_rfl)
 | false =>
  have q0:=bne_eq_false_iff_eq.1 h0
  have e:=Eq.refl (yG a0 a1);conv at e=>rhs;simp only [yG,h0,aW]
  rw [e]
  refine en (t0++[.d h0]) [] [3,7,19,20,21] [1] hcx aEl (aEm) (aA7 a0 a1 0 0) (tN ((a0.length:Int) - 0)+1) (by kernel_rfl) ?_
  exact aQ0 a0 a1 l0 hl hcx (tN ((a0.length:Int) - 0)+1) 0 0 (by refine⟨?_,?_⟩<;>(try simp only [Ls])<;>first | omega | assumption | simp) (by omega)
noncomputable def aEn:Code:=(aN [1,1,0,1,0,1,1,0,1,1,0,1] [0] (aL Tryz.f74) []).1
noncomputable def aEo (m0:Nat):List K:=(aN [1,1,0,1,0,1,1,0,1,1,0,1] [m0] (aL Tryz.f74) []).2
def aA8 (a0:bT×Int×List Int×bE)(a1:List Int)(v15 v16 v17 v18 v19 v20 v21:Int):LS:=⟨gO 59 [(0,(.p 0 0)),(1,(.s 4 0 a1.length 1)),(4,(.p 5 0)),(5,(iv v15)),(6,(iv v16)),(7,(iv v17)),(8,(iv v18)),(9,(iv v19)),(12,(iv v20)),(27,(.s 4 0 a1.length 1)),(28,(iv (a1.length:Int))),(29,(iv v21))],[(.live false false [(.s 1 0 a0.1.length 10),(iv a0.2.1),(.s 2 0 a0.2.2.1.length 1),(.s 3 0 a0.2.2.2.length 8)]),(.live false true (flat dI a0.1)),(.live false true (flat c3 a0.2.2.1)),(.live false true (flat bZ a0.2.2.2)),(.live false true (flat c3 a1)),(.live true false [(.v (.pointer none)),(iv 0)])]⟩
def gS (a0:bT×Int×List Int×bE)(a1:List Int):Int×Int×Int×Int×Zt->(Int×Int×Int×Int×Zt)⊕(Zt⊕TyS)
 | (v15,v16,v17,v18,v19,v20,v21) =>
  (bif (decide ((v21:Int) < (a1.length:Int))) then
   (.inl (v15,v16,v17,(if((rK (a0.1,a0.2.1,(a0.2.2.1,a0.2.2.2)) (a1.getD (tN v21) dF) v17):Int) < v18 then(rK (a0.1,a0.2.1,(a0.2.2.1,a0.2.2.2)) (a1.getD (tN v21) dF) v17) else v18),(if(v19:Int) < (rK (a0.1,a0.2.1,(a0.2.2.1,a0.2.2.2)) (a1.getD (tN v21) dF) v17) then(rK (a0.1,a0.2.1,(a0.2.2.1,a0.2.2.2)) (a1.getD (tN v21) dF) v17) else v19),v20,(v21+1)))
  else
   (bif (decide (((W (v19 - v18)):Int) > v16)) then
    (.inr (.inl (v17,(W (v19 - v18)),(v20+1))))
   else
    (.inr (.inl (v15,v16,(v20+1))))))
noncomputable def vL:Code:=(aN [1,1,0,1] [] (aL Tryz.f74) []).1
noncomputable def vM:List K:=(aN [1,1,0,1] [] (aL Tryz.f74) []).2
def rN (a0:bT×Int×List Int×bE)(a1:List Int)(v12 v13 v14:Int):LS:=⟨gO 59 [(0,(.p 0 0)),(1,(.s 4 0 a1.length 1)),(4,(.p 5 0)),(5,(iv v12)),(6,(iv v13)),(12,(iv v14))],[(.live false false [(.s 1 0 a0.1.length 10),(iv a0.2.1),(.s 2 0 a0.2.2.1.length 1),(.s 3 0 a0.2.2.2.length 8)]),(.live false true (flat dI a0.1)),(.live false true (flat c3 a0.2.2.1)),(.live false true (flat bZ a0.2.2.2)),(.live false true (flat c3 a1)),(.live true false [(.v (.pointer none)),(iv 0)])]⟩
def iT (a0:bT×Int×List Int×bE)(a1:List Int):Zt->Zt⊕TyS
 | (v12,v13,v14) =>
  (bif (decide ((v14:Int) < 3)) then
   (aH (gS a0 a1) (tN ((a1.length:Int) - 0)+1) (v12,v13,v14,(rK (a0.1,a0.2.1,(a0.2.2.1,a0.2.2.2)) (a1.getD (tN 0) dF) v14),(rK (a0.1,a0.2.1,(a0.2.2.1,a0.2.2.2)) (a1.getD (tN 0) dF) v14),v14,0))
  else
   (.inr ((a0.1,a0.2.1,(a0.2.2.1,a0.2.2.2)),v12)))
theorem aQ1 (a0:bT×Int×List Int×bE)(a1:List Int)(l0_1:a0.1.length<=2^63-1)(l0_2_2_1:a0.2.2.1.length<=2^63-1)(l0_2_2_2:a0.2.2.2.length<=2^63-1)(l1:a1.length<=2^63-1)(hir:InR a0.1.length a1)(hl:1<=a1.length/\a1.length<=1048576) {cx:Cx} (hcx:cx.base=5)
 (n0:Nat) (g0:∀(v12 v13 v14:Int),(0<=v14)/\(v14<=3)->tN (3 - v14) < n0->Aw.Good Tryz.prog none 9 (bodyPost Tryz.prog Tryz.f74 (RR cx (.a [(.p 0 0),(iv (aH (iT a0 a1) n0 (v12,v13,v14)).2)]) [] [])) cx [] (.l vL n0::vM) (rN a0 a1 v12 v13 v14)):∀(n:Nat) (v15 v16 v17 v18 v19 v20 v21:Int),(0<=v21)/\(v21<=a1.length)/\((0<=v20))/\((v20<=3))/\(v20 < 3)/\(tN (3 - v20) < n0+1)->tN ((a1.length:Int) - v21) < n->Aw.Good Tryz.prog none 9 (bodyPost Tryz.prog Tryz.f74 (RR cx (.a [(.p 0 0),(iv (aZ (iT a0 a1) n0 (aH (gS a0 a1) n (v15,v16,v17,v18,v19,v20,v21))).2)]) [] [])) cx [] (.l aEn n::aEo n0) (aA8 a0 a1 v15 v16 v17 v18 v19 v20 v21):=by
 intro n
 induction n with
 | zero=>intro v15 v16 v17 v18 v19 v20 v21 hi hn;exact absurd hn (eL _)
 | succ n ih =>
  intro v15 v16 v17 v18 v19 v20 v21 hi hn
  refine aS ?_
  cases h0:(decide ((v21:Int) < (a1.length:Int))) with
  | true =>
   have q0:=cN h0
   try have hr1:=hir.at (i:=tN v21) (by have _:=h0;omega)
   have e:=Eq.refl (gS a0 a1 (v15,v16,v17,v18,v19,v20,v21));conv at e=>rhs;simp only [gS,h0,aW]
   rw [aI e]
   refine ba [.d h0,.i v21 (a1.length),.L aF a1 v21 0 1,.c [0,1,2,3] (C95 (a0.1,a0.2.1,(a0.2.2.1,a0.2.2.2)) (a1.getD (tN v21) dF) v17 (by omega) (by omega) (by omega) (by omega)),.c [0,1,2,3] (C95 (a0.1,a0.2.1,(a0.2.2.1,a0.2.2.2)) (a1.getD (tN v21) dF) v17 (by omega) (by omega) (by omega) (by omega))] [] [0,1,4,5,6,7,8,9,12,27,28,29] [5] hcx (m:=n) aEn (aEo n0) (aA8 a0 a1 v15 v16 v17 (if((rK (a0.1,a0.2.1,(a0.2.2.1,a0.2.2.2)) (a1.getD (tN v21) dF) v17):Int) < v18 then(rK (a0.1,a0.2.1,(a0.2.2.1,a0.2.2.2)) (a1.getD (tN v21) dF) v17) else v18) (if(v19:Int) < (rK (a0.1,a0.2.1,(a0.2.2.1,a0.2.2.2)) (a1.getD (tN v21) dF) v17) then(rK (a0.1,a0.2.1,(a0.2.2.1,a0.2.2.2)) (a1.getD (tN v21) dF) v17) else v19) v20 (W (v21+1))) (by kernel_rfl) ?_
   have z0:(W (v21+1))=(v21+1):=aR (by omega) (by omega)
   rw [z0]
   exact ih v15 v16 v17 (if((rK (a0.1,a0.2.1,(a0.2.2.1,a0.2.2.2)) (a1.getD (tN v21) dF) v17):Int) < v18 then(rK (a0.1,a0.2.1,(a0.2.2.1,a0.2.2.2)) (a1.getD (tN v21) dF) v17) else v18) (if(v19:Int) < (rK (a0.1,a0.2.1,(a0.2.2.1,a0.2.2.2)) (a1.getD (tN v21) dF) v17) then(rK (a0.1,a0.2.1,(a0.2.2.1,a0.2.2.2)) (a1.getD (tN v21) dF) v17) else v19) v20 (v21+1) (by refine⟨?_,?_,?_,?_,?_,?_⟩<;>(try simp only [Ls])<;>first | omega | assumption | exact hi.2.1 | exact hi.2.2.1 | exact hi.2.2.2.1 | exact hi.2.2.2.2.1 | exact hi.2.2.2.2.2.1 | simp) (by omega)
  | false =>
   have q0:=cY h0
   let t1:List (St Tryz.prog):=[.d h0]
   cases h1:(decide (((W (v19 - v18)):Int) > v16)) with
   | true =>
    have q1:=cN h1
    have e:=Eq.refl (gS a0 a1 (v15,v16,v17,v18,v19,v20,v21));conv at e=>rhs;simp only [gS,h0,h1,aW]
    rw [aK,e]
    refine ba (t1++[.d h1]) [] [0,1,4,5,6,12] [5] hcx (m:=n0) vL (vM) (rN a0 a1 v17 (W (v19 - v18)) (W (v20+1))) (by kernel_rfl) ?_
    have z0:(W (v20+1))=(v20+1):=aR (by omega) (by omega)
    rw [z0]
    exact g0 v17 (W (v19 - v18)) (v20+1) (by refine⟨?_,?_⟩<;>(try simp only [Ls])<;>first | omega | assumption | simp) (by omega)
   | false =>
    have q1:=cY h1
    have e:=Eq.refl (gS a0 a1 (v15,v16,v17,v18,v19,v20,v21));conv at e=>rhs;simp only [gS,h0,h1,aW]
    rw [aK,e]
    refine ba (t1++[.d h1]) [] [0,1,4,5,6,12] [5] hcx (m:=n0) vL (vM) (rN a0 a1 v15 v16 (W (v20+1))) (by kernel_rfl) ?_
    have z0:(W (v20+1))=(v20+1):=aR (by omega) (by omega)
    rw [z0]
    exact g0 v15 v16 (v20+1) (by refine⟨?_,?_⟩<;>(try simp only [Ls])<;>first | omega | assumption | simp) (by omega)
theorem aQ2 (a0:bT×Int×List Int×bE)(a1:List Int)(l0_1:a0.1.length<=2^63-1)(l0_2_2_1:a0.2.2.1.length<=2^63-1)(l0_2_2_2:a0.2.2.2.length<=2^63-1)(l1:a1.length<=2^63-1)(hir:InR a0.1.length a1)(hl:1<=a1.length/\a1.length<=1048576) {cx:Cx} (hcx:cx.base=5):∀(n:Nat) (v12 v13 v14:Int),(0<=v14)/\(v14<=3)->tN (3 - v14) < n->Aw.Good Tryz.prog none 9 (bodyPost Tryz.prog Tryz.f74 (RR cx (.a [(.p 0 0),(iv (aH (iT a0 a1) n (v12,v13,v14)).2)]) [] [])) cx [] (.l vL n::vM) (rN a0 a1 v12 v13 v14):=by
 intro n
 induction n with
 | zero=>intro v12 v13 v14 hi hn;exact absurd hn (eL _)
 | succ n ih =>
  intro v12 v13 v14 hi hn
  refine aS ?_
  have hr0:=hir.at (i:=0) (by omega)
  cases h0:(decide ((v14:Int) < 3)) with
  | true =>
   have q0:=cN h0
   have e:=Eq.refl (iT a0 a1 (v12,v13,v14));conv at e=>rhs;simp only [iT,h0,aW]
   rw [aK,e]
   refine en [.d h0,.i 0 (a1.length),.L aF a1 0 0 1,.c [0,1,2,3] (C95 (a0.1,a0.2.1,(a0.2.2.1,a0.2.2.2)) (a1.getD (tN 0) dF) v14 (by omega) (by omega) (by omega) (by(try simp only [Lt]);omega)),.i 0 (a1.length),.L aF a1 0 0 1,.c [0,1,2,3] (C95 (a0.1,a0.2.1,(a0.2.2.1,a0.2.2.2)) (a1.getD (tN 0) dF) v14 (by omega) (by omega) (by omega) (by(try simp only [Lt]);omega))] [] [0,1,4,5,6,7,8,9,12,27,28,29] [5] hcx aEn (aEo n) (aA8 a0 a1 v12 v13 v14 (rK (a0.1,a0.2.1,(a0.2.2.1,a0.2.2.2)) (a1.getD (tN 0) dF) v14) (rK (a0.1,a0.2.1,(a0.2.2.1,a0.2.2.2)) (a1.getD (tN 0) dF) v14) v14 0) (tN ((a1.length:Int) - 0)+1) (by kernel_rfl) ?_
   exact aQ1 a0 a1 l0_1 l0_2_2_1 l0_2_2_2 l1 hir hl hcx n ih (tN ((a1.length:Int) - 0)+1) v12 v13 v14 (rK (a0.1,a0.2.1,(a0.2.2.1,a0.2.2.2)) (a1.getD (tN 0) dF) v14) (rK (a0.1,a0.2.1,(a0.2.2.1,a0.2.2.2)) (a1.getD (tN 0) dF) v14) v14 0 (by refine⟨?_,?_,?_,?_,?_,?_⟩<;>(try simp only [Ls])<;>first | omega | assumption | exact hi.2.1 | exact hi.2.2.1 | exact hi.2.2.2.1 | exact hi.2.2.2.2.1 | exact hi.2.2.2.2.2.1 | simp) (by omega)
  | false =>
   have q0:=cY h0
   have e:=Eq.refl (iT a0 a1 (v12,v13,v14));conv at e=>rhs;simp only [iT,h0,aW]
   rw [aK,e]
   exact rt [.d h0] [] [] hcx (by kernel_rfl)
def aGv (a0:bT×Int×List Int×bE)(a1:List Int):eK×Int :=
 (aH (iT a0 a1) (tN (3 - 0)+1) (0,(-1),0))
theorem aVi (a0:bT×Int×List Int×bE)(a1:List Int)(l0_1:a0.1.length<=2^63-1)(l0_2_2_1:a0.2.2.1.length<=2^63-1)(l0_2_2_2:a0.2.2.2.length<=2^63-1)(l1:a1.length<=2^63-1)(hir:InR a0.1.length a1)(hl:1<=a1.length/\a1.length<=1048576):Con Tryz.prog 74 [(.p 0 0),(.s 4 0 a1.length 1)] [(.live false false [(.s 1 0 a0.1.length 10),(iv a0.2.1),(.s 2 0 a0.2.2.1.length 1),(.s 3 0 a0.2.2.2.length 8)]),(.live false true (flat dI a0.1)),(.live false true (flat c3 a0.2.2.1)),(.live false true (flat bZ a0.2.2.2)),(.live false true (flat c3 a1))] (.a [(.p 0 0),(iv (aGv a0 a1).2)]) []:=by
 refine bA Tryz.func74 (by kernel_rfl) fun cx hcx=>?_
 have e:=Eq.refl (aGv a0 a1);conv at e=>rhs;simp only [aGv]
 try rw [e]
 refine en [] [] [0,1,4,5,6,12] [5] hcx vL (vM) (rN a0 a1 0 (-1) 0) (tN (3 - 0)+1) (by kernel_rfl) ?_
 exact aQ2 a0 a1 l0_1 l0_2_2_1 l0_2_2_2 l1 hir hl hcx (tN (3 - 0)+1) 0 (-1) 0 (by refine⟨?_,?_⟩<;>(try simp only [Ls])<;>first | omega | assumption | simp) (by omega)
end Go.Proofs.YtkdfcbmcgnaicaaGreat
