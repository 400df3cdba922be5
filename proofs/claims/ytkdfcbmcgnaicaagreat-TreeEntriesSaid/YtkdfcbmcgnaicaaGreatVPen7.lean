/-
  Parts of the proofs of the laws: the executor, what functions of the program compute, and that it is what the statements ask. No premise.
-/
import Derived.Test.YtkdfcbmcgnaicaaGreatVPen6
set_option linter.unusedVariables false
set_option linter.unusedSimpArgs false
set_option maxHeartbeats 4000000
open Int renaming toNat → tN
open Inhabited renaming default → dF
namespace Go.Proofs.YtkdfcbmcgnaicaaGreat
open Go.Proofs Go.Aw Go.RowKit
set_option maxRecDepth 100000
section
variable {cx : Cx} {k : List K} {s : LS} {base nn es : Nat} {rows : List (Option iF)} {Q : Exit → Act → World → Prop}
theorem enT (sts:List (St Tryz.prog))(ads:List Adj)(ts ks:List Nat)(hb:cx.base=base)(body:Code)(k':List K)(s':LS)(m:Nat)
 (h:uX base ts ks (oV ads (run T0 5000 k s (nJ sts)))=some (body,k',s',stB sts)) (ro:roE base s'.bk s.bk) (hg:GoodT Tryz.prog none 9 Q cx [] nn es rows (.l body m::k') s'):GoodT Tryz.prog none 9 Q cx [] nn es rows k s :=
 GoodT.frame (fun _ hb1 h'=>en sts ads ts ks (hb1.trans hb) body k' s' m h h') (by rw [hb];exact ro) hg
theorem baT {m:Nat} (sts:List (St Tryz.prog))(ads:List Adj)(ts ks:List Nat)(hb:cx.base=base)(body:Code)(k':List K)(s':LS)
 (h:aAm base ts ks (oV ads (run T0 5000 k s (nJ sts)))=some (body,m,k',s',stB sts)) (ro:roE base s'.bk s.bk) (hg:GoodT Tryz.prog none 9 Q cx [] nn es rows (.l body m::k') s'):GoodT Tryz.prog none 9 Q cx [] nn es rows k s :=
 GoodT.frame (fun _ hb1 h'=>ba sts ads ts ks (hb1.trans hb) body k' s' h h') (by rw [hb];exact ro) hg
theorem gaT (sts:List (St Tryz.prog))(ads:List Adj)(ts ks:List Nat)(hb:cx.base=base)(x:Code)(k':List K)(s':LS)
 (h:aNm base ts ks (oV ads (run T0 5000 k s (nJ sts)))=some (x,k',s',stB sts)) (ro:roE base s'.bk s.bk) (hg:GoodT Tryz.prog none 9 Q cx [] nn es rows (.c x::k') s'):GoodT Tryz.prog none 9 Q cx [] nn es rows k s :=
 GoodT.frame (fun _ hb1 h'=>ga sts ads ts ks (hb1.trans hb) x k' s' h h') (by rw [hb];exact ro) hg
end
abbrev tE:=(List Int×bE)×List (Int×Int×Bool)×List (List (Int×Int))
def aV0 (o:tE)(j:Int):Prop :=
 (0<=(o.2.1.getD (tN j) dF).1/\(o.2.1.getD (tN j) dF).1 < o.1.2.length) /\
 (0<=(o.2.1.getD (tN j) dF).2.1/\(o.2.1.getD (tN j) dF).2.1 < o.1.2.length) /\
 (0<=(o.1.2.getD (tN (o.2.1.getD (tN j) dF).1) dF).1/\(o.1.2.getD (tN (o.2.1.getD (tN j) dF).1) dF).1<=(o.1.2.getD (tN (o.2.1.getD (tN j) dF).1) dF).2.1/\(o.1.2.getD (tN (o.2.1.getD (tN j) dF).1) dF).2.1<=o.1.1.length) /\
 (0<=(o.1.2.getD (tN (o.2.1.getD (tN j) dF).2.1) dF).1/\(o.1.2.getD (tN (o.2.1.getD (tN j) dF).2.1) dF).1<=(o.1.2.getD (tN (o.2.1.getD (tN j) dF).2.1) dF).2.1/\(o.1.2.getD (tN (o.2.1.getD (tN j) dF).2.1) dF).2.1<=o.1.1.length) /\
 (((o.2.2.getD (tN j) dF).length:Nat):Int)=bif (o.2.1.getD (tN j) dF).2.2 then 1 else
   ((o.1.2.getD (tN (o.2.1.getD (tN j) dF).1) dF).2.1 - (o.1.2.getD (tN (o.2.1.getD (tN j) dF).1) dF).1) *
   ((o.1.2.getD (tN (o.2.1.getD (tN j) dF).2.1) dF).2.1 - (o.1.2.getD (tN (o.2.1.getD (tN j) dF).2.1) dF).1)
structure EntOK (n:Int) (o:tE):Prop where
 n1:0<=n/\n<=96
 nz:0 < o.2.1.length->1<=n
 ol:o.1.1.length<=96
 ord:InR (tN n) o.1.1
 sp:o.2.2.length=o.2.1.length/\o.2.1.length<=9216
 sl:∀j:Nat,(((o.2.2.getD j dF).length:Nat):Int)<=10000
 blk:∀j:Int,0<=j->j < o.2.1.length->aV0 o j
structure TL {α:Type} (nn:Nat) (m:List (List α)) (i:Nat):Prop where
 len:m.length=nn
 row:∀j < i,(m.getD j []).length=nn
theorem TL.set {α:Type} {nn i:Nat} {m:List (List α)} (h:TL nn m i) {l:List α} (hl:l.length=nn)(k:Nat):TL nn (m.set k l) i:=by
 refine⟨by rw [List.length_set];exact h.1,fun j hj=>?_⟩
 rw [fP,List.getElem?_set]
 split
 ·split
  ·simpa using hl
  ·rename_i hjk hjl
   have:=h.2 j hj
   rw [fP,List.getElem?_eq_none (by omega)] at this
   simpa using this
 ·rw [←fP];exact h.2 j hj
theorem TL.next {α:Type} {nn i:Nat} {m:List (List α)} (h:TL nn m i)(hi:i < nn) {l:List α} (hl:l.length=nn):TL nn (m.set i l) (i+1):=by
 refine⟨(h.set hl i).1,fun j hj=>?_⟩
 rcases Nat.lt_or_ge j i with h' | h'
 ·exact(h.set hl i).2 j h'
 ·obtain rfl:j=i:=by omega
  rw [fP,List.getElem?_set,if_pos rfl,if_pos (by rw [h.1];exact hi)]
  exact hl
theorem TL.le {α:Type} {nn i k:Nat} {m:List (List α)} (h:TL nn m i)(hk:k<=i):TL nn m k:=⟨h.1,fun j hj=>h.2 j (by omega)⟩
theorem TL.rep {α:Type} {nn:Nat}:TL nn (List.replicate nn ([]:List α)) 0:=⟨by simp,fun j hj=>absurd hj (eL j)⟩
theorem qM {l m:List SV} (h:l.length=m.length):m=splice l 0 m:=by
 unfold splice
 rw [List.take_zero,Nat.zero_add,←h,List.drop_length];simp
theorem yL {nn:Nat} {v:List (Option iF)} {i:Nat} {x:iF} (h:v[i]? = some (some x))(c:List SV):flat (cO nn) (v.set i (some (x.1,x.2.1,c)))=flat (cO nn) v:=by
 induction v generalizing i with
 | nil=>simp at h
 | cons o v ih =>
  cases i with
  | zero =>
   simp only [List.getElem?_cons_zero,bG] at h
   subst h
   rfl
  | succ i =>
   have:=ih (i:=i) (by simpa using h)
   simp only [List.set_cons_succ,flat,List.flatMap_cons] at this ⊢
   rw [this]
def yM (a:Int)(far:Bool)(p L:Int)(q:Int):Prop:=a=bif far then 0 else p*L+q
theorem aLl {a p q L S:Int} {far:Bool} {n:Nat} (h:yM a far p L q)(hn:((n:Nat):Int)=bif far then 1 else S*L)(hp:0<=p/\p < S)(hq:0<=q/\q < L):0<=a/\a < (n:Int):=by
 unfold yM at h
 rw [hn,h]
 cases far with
 | true=>simp
 | false =>
  simp only [cond_false]
  have h1:0<=p*L:=Int.mul_nonneg hp.1 (by omega)
  have h2:(p+1)*L<=S*L:=Int.mul_le_mul_of_nonneg_right (by omega) (by omega)
  rw [Int.add_mul,Int.one_mul] at h2
  omega
theorem aLm {a p q L:Int} {far:Bool} (h:yM a far p L q)(hf:(!far)=true):yM (a+1) far p L (q+1):=by
 unfold yM at *
 cases far with
 | true=>cases hf
 | false=>simp only [cond_false] at *;omega
theorem aPl {a p q L:Int} {far:Bool} (h:yM a far p L q)(hf:(!far)=false)(q':Int):yM a far p L q':=by
 unfold yM at *
 cases far with
 | true=>exact h
 | false=>cases hf
theorem aPm {a p q L:Int} {far:Bool} (h:yM a far p L q)(hq:q=L):yM a far (p+1) L 0:=by
 unfold yM at *
 subst hq
 cases far with
 | true=>exact h
 | false=>simp only [cond_false] at *;rw [h,Int.add_mul,Int.one_mul,Int.add_zero]
theorem uK {L:Int} {far:Bool}:yM 0 far 0 L 0:=by unfold yM;cases far<;>simp
theorem nU {L x:Int} {far:Bool}:yM 0 far (x - x) L 0:=by rw [Int.sub_self];exact uK
structure TK {α:Type} (nn k:Nat) (m:List (List α)):Prop where
 len:m.length=k
 row:∀j < k,(m.getD j []).length=nn
theorem TK.nil {α:Type} {nn:Nat}:TK nn 0 ([]:List (List α)):=⟨rfl,fun j hj=>absurd hj (eL j)⟩
theorem TK.next {α:Type} {nn k:Nat} {m:List (List α)} (h:TK nn k m) {l:List α} (hl:l.length=nn):TK nn (k+1) (m++[l]):=by
 refine⟨by rw [List.length_append,h.len];rfl,fun j hj=>?_⟩
 rcases Nat.lt_or_ge j k with h' | h'
 ·rw [fP,List.getElem?_append_left (by rw [h.len];exact h'),←fP];exact h.row j h'
 ·obtain rfl:j=k:=by omega
  rw [fP,List.getElem?_append_right (by rw [h.len];exact Nat.le_refl _),h.len,Nat.sub_self]
  exact hl
theorem TK.to {α:Type} {nn k k2:Nat} {m:List (List α)} (h:TK nn k m)(e:k2=k):TK nn k2 m:=by rw [e];exact h
theorem TK.tl {α:Type} {nn k:Nat} {m:List (List α)} (h:TK nn k m)(e:k=nn):TL nn m nn:=by subst e;exact⟨h.len,h.row⟩
def jM (x:List (Int×Int)):List SV:=[(.d (flat jY x) x.length 2)]
theorem jK (x:List (Int×Int)):(jM x).length=1:=rfl
noncomputable def aPn:Code:=(cC [1,1,0,1,0,0,1,1,1] [0] (aL Tryz.f23)).1
noncomputable def aPo (m0:Nat):List K:=(cC [1,1,0,1,0,0,1,1,1] [m0] (aL Tryz.f23)).2
def aLn (a0:Int)(a1:(List Int×bE)×(List (Int×Int×Bool))×List (List (Int×Int)))(v6c:List SV)(v6n:Nat)(v7:Int):LS:=⟨gO 100 [(0,(iv a0)),(3,(.p 4 0)),(5,(.s 5 0 v6n 1)),(19,(iv (((tN a0):Nat):Int))),(20,(iv v7))],[(.live false true (flat c3 a1.1.1)),(.live false true (flat bZ a1.1.2)),(.live false true (flat eS a1.2.1)),(.live false true (flat jM a1.2.2)),(.live true false [(.s 0 0 a1.1.1.length 1),(.s 1 0 a1.1.2.length 8),(.s 2 0 a1.2.1.length 3),(.s 3 0 a1.2.2.length 1)]),(.live true true v6c)]⟩
def xK (a0:Int)(a1:(List Int×bE)×(List (Int×Int×Bool))×List (List (Int×Int))):(List (List (Int×Int)))×Int->((List (List (Int×Int)))×Int)⊕(List (List (Int×Int)))
 | (v6,v7) =>
  (.inl (v6,(v7+1)))
noncomputable def aJk:Code:=(cC [1,1,0,1,0,0,1,1,0,0,1] [0] (aL Tryz.f23)).1
noncomputable def aPp (m0:Nat):List K:=(cC [1,1,0,1,0,0,1,1,0,0,1] [m0] (aL Tryz.f23)).2
def aLo (a0:Int)(a1:(List Int×bE)×(List (Int×Int×Bool))×List (List (Int×Int)))(v3c:List SV)(v3n:Nat)(v4 v5:Int):LS:=⟨gO 100 [(0,(iv a0)),(3,(.p 4 0)),(5,(.s 5 0 v3n 1)),(6,(iv v4)),(19,(iv (((tN a0):Nat):Int))),(20,(iv v5))],[(.live false true (flat c3 a1.1.1)),(.live false true (flat bZ a1.1.2)),(.live false true (flat eS a1.2.1)),(.live false true (flat jM a1.2.2)),(.live true false [(.s 0 0 a1.1.1.length 1),(.s 1 0 a1.1.2.length 8),(.s 2 0 a1.2.1.length 3),(.s 3 0 a1.2.2.length 1)]),(.live true true v3c)]⟩
def xL (a0:Int)(a1:(List Int×bE)×(List (Int×Int×Bool))×List (List (Int×Int))):(List (List (Int×Int)))×Int×Int->((List (List (Int×Int)))×Int)⊕(List (List (Int×Int)))
 | (v3,v4,v5) =>
  (xK a0 a1 ((v3.set (tN v4) (List.replicate (tN a0) (0,0))),v5))
noncomputable def aLp:Code:=(cC [1,1,1,0,1,0,0,1,1,0,0,1,1,1,1,0,0,1,1,0,0,1,1,0,0,1,1,0,0,1,1,0] [0,0,0] (aL Tryz.f23)).1
noncomputable def aLq (m0:Nat)(m1:Nat)(m2:Nat):List K:=(cC [1,1,1,0,1,0,0,1,1,0,0,1,1,1,1,0,0,1,1,0,0,1,1,0,0,1,1,0,0,1,1,0] [m0,m1,m2] (aL Tryz.f23)).2
def aHf (a0:Int)(a1:(List Int×bE)×(List (Int×Int×Bool))×List (List (Int×Int)))(v227c:List SV)(v227n:Nat)(v228 v229 v230 v231 v232 v233 v234 v235 v236 v237 v238 v239 v240 v241:Int)(v242:Bool)(v243 v244 v245 v246 v247 v248 v249 v250:Int):LS:=⟨gO 100 [(3,(.p 4 0)),(5,(.s 5 0 v227n 1)),(7,(iv v228)),(8,(.p 6 0)),(10,(.p 7 0)),(11,(iv v229)),(13,(iv v230)),(30,(.s 2 0 a1.2.1.length 3)),(31,(iv (a1.2.1.length:Int))),(32,(iv v231)),(58,(.s 0 (0+tN v232*1) (tN v233 - tN v232) 1)),(59,(iv v234)),(60,(iv v235)),(71,(.s 0 (0+tN v236*1) (tN v237 - tN v236) 1)),(72,(iv v238)),(73,(iv v239))],[(.live false true (flat c3 a1.1.1)),(.live false true (flat bZ a1.1.2)),(.live false true (flat eS a1.2.1)),(.live false true (flat jM a1.2.2)),(.live true false [(.s 0 0 a1.1.1.length 1),(.s 1 0 a1.1.2.length 8),(.s 2 0 a1.2.1.length 3),(.s 3 0 a1.2.2.length 1)]),(.live true true v227c),(.live true false [(iv v240),(iv v241),(.v (.bool v242))]),(.live true false [(iv v243),(iv v244),(iv v245),(iv v246),(iv v247),(iv v248),(iv v249),(iv v250)])]⟩
def nV (a0:Int)(a1:(List Int×bE)×(List (Int×Int×Bool))×List (List (Int×Int))):(List (List (Int×Int)))×Int×Int×Int×Int×Int×Int×Int×Int×Int×Int×Int×Int×Int×Int×Bool×Int×Int×Int×Int×Int×Zt->((List (List (Int×Int)))×Int×Int×Int×Int×Int×Int×Int×Int×Int×Int×Int×Int×Int×Int×Bool×Int×Int×Int×Int×Int×Zt)⊕(((List (List (Int×Int)))×Int×Int×Int×Int×Int×Int×Int×Int×Int×Bool×Int×Int×Int×Int×Int×Zt)⊕(((List (List (Int×Int)))×Int)⊕(List (List (Int×Int)))))
 | (v227,v228,v229,v230,v231,v232,v233,v234,v235,v236,v237,v238,v239,v240,v241,v242,v243,v244,v245,v246,v247,v248,v249,v250) =>
  (bif (!v242) then
   (.inl (v227,v228,(W (v229+1)),v230,v231,v232,v233,v234,v235,v236,v237,v238,(v239+1),v240,v241,v242,v243,v244,v245,v246,v247,v248,v249,v250))
  else
   (.inl (v227,v228,v229,v230,v231,v232,v233,v234,v235,v236,v237,v238,(v239+1),v240,v241,v242,v243,v244,v245,v246,v247,v248,v249,v250)))
noncomputable def aFe:Code:=(cC [1,1,1,0,1,0,0,1,1,0,0,1,1,1,1,0,0,1,1,0,0,1,1,0,0,1,1,0,0,1,0] [0,0,0] (aL Tryz.f23)).1
noncomputable def aLr (m0:Nat)(m1:Nat)(m2:Nat):List K:=(cC [1,1,1,0,1,0,0,1,1,0,0,1,1,1,1,0,0,1,1,0,0,1,1,0,0,1,1,0,0,1,0] [m0,m1,m2] (aL Tryz.f23)).2
def aHg (a0:Int)(a1:(List Int×bE)×(List (Int×Int×Bool))×List (List (Int×Int)))(v202c:List SV)(v202n:Nat)(v203 v204 v205 v206 v207 v208 v209 v210 v211 v212 v213 v214 v215 v216 v217:Int)(v218:Bool)(v219 v220 v221 v222 v223 v224 v225 v226:Int):LS:=⟨gO 100 [(3,(.p 4 0)),(5,(.s 5 0 v202n 1)),(7,(iv v203)),(8,(.p 6 0)),(10,(.p 7 0)),(11,(iv v204)),(13,(iv v205)),(15,(iv v206)),(30,(.s 2 0 a1.2.1.length 3)),(31,(iv (a1.2.1.length:Int))),(32,(iv v207)),(58,(.s 0 (0+tN v208*1) (tN v209 - tN v208) 1)),(59,(iv v210)),(60,(iv v211)),(71,(.s 0 (0+tN v212*1) (tN v213 - tN v212) 1)),(72,(iv v214)),(73,(iv v215))],[(.live false true (flat c3 a1.1.1)),(.live false true (flat bZ a1.1.2)),(.live false true (flat eS a1.2.1)),(.live false true (flat jM a1.2.2)),(.live true false [(.s 0 0 a1.1.1.length 1),(.s 1 0 a1.1.2.length 8),(.s 2 0 a1.2.1.length 3),(.s 3 0 a1.2.2.length 1)]),(.live true true v202c),(.live true false [(iv v216),(iv v217),(.v (.bool v218))]),(.live true false [(iv v219),(iv v220),(iv v221),(iv v222),(iv v223),(iv v224),(iv v225),(iv v226)])]⟩
def sI (a0:Int)(a1:(List Int×bE)×(List (Int×Int×Bool))×List (List (Int×Int))):(List (List (Int×Int)))×Int×Int×Int×Int×Int×Int×Int×Int×Int×Int×Int×Int×Int×Int×Int×Bool×Int×Int×Int×Int×Int×Zt->((List (List (Int×Int)))×Int×Int×Int×Int×Int×Int×Int×Int×Int×Int×Int×Int×Int×Int×Bool×Int×Int×Int×Int×Int×Zt)⊕(((List (List (Int×Int)))×Int×Int×Int×Int×Int×Int×Int×Int×Int×Bool×Int×Int×Int×Int×Int×Zt)⊕(((List (List (Int×Int)))×Int)⊕(List (List (Int×Int)))))
 | (v202,v203,v204,v205,v206,v207,v208,v209,v210,v211,v212,v213,v214,v215,v216,v217,v218,v219,v220,v221,v222,v223,v224,v225,v226) =>
  (nV a0 a1 ((v202.set (tN v205) ((v202.getD (tN v205) []).set (tN v206) ((a1.2.2.getD (tN v203) dF).getD (tN v204) dF))),v203,v204,v205,v207,v208,v209,v210,v211,v212,v213,v214,v215,v216,v217,v218,v219,v220,v221,v222,v223,v224,v225,v226))
noncomputable def aLs:Code:=(aN [1,1,1,0,1,0,1,1,0,1,1,1,1,0,1,1,0,1,1] [0,0] (aL Tryz.f23) []).1
noncomputable def aLt (m0:Nat)(m1:Nat):List K:=(aN [1,1,1,0,1,0,1,1,0,1,1,1,1,0,1,1,0,1,1] [m0,m1] (aL Tryz.f23) []).2
def aFf (a0:Int)(a1:(List Int×bE)×(List (Int×Int×Bool))×List (List (Int×Int)))(v178c:List SV)(v178n:Nat)(v179 v180 v181 v182 v183 v184 v185 v186 v187 v188 v189 v190 v191 v192:Int)(v193:Bool)(v194 v195 v196 v197 v198 v199 v200 v201:Int):LS:=⟨gO 100 [(3,(.p 4 0)),(5,(.s 5 0 v178n 1)),(7,(iv v179)),(8,(.p 6 0)),(10,(.p 7 0)),(11,(iv v180)),(13,(iv v181)),(30,(.s 2 0 a1.2.1.length 3)),(31,(iv (a1.2.1.length:Int))),(32,(iv v182)),(58,(.s 0 (0+tN v183*1) (tN v184 - tN v183) 1)),(59,(iv v185)),(60,(iv v186)),(71,(.s 0 (0+tN v187*1) (tN v188 - tN v187) 1)),(72,(iv v189)),(73,(iv v190))],[(.live false true (flat c3 a1.1.1)),(.live false true (flat bZ a1.1.2)),(.live false true (flat eS a1.2.1)),(.live false true (flat jM a1.2.2)),(.live true false [(.s 0 0 a1.1.1.length 1),(.s 1 0 a1.1.2.length 8),(.s 2 0 a1.2.1.length 3),(.s 3 0 a1.2.2.length 1)]),(.live true true v178c),(.live true false [(iv v191),(iv v192),(.v (.bool v193))]),(.live true false [(iv v194),(iv v195),(iv v196),(iv v197),(iv v198),(iv v199),(iv v200),(iv v201)])]⟩
def nF (a0:Int)(a1:(List Int×bE)×(List (Int×Int×Bool))×List (List (Int×Int))):(List (List (Int×Int)))×Int×Int×Int×Int×Int×Int×Int×Int×Int×Int×Int×Int×Int×Int×Bool×Int×Int×Int×Int×Int×Zt->((List (List (Int×Int)))×Int×Int×Int×Int×Int×Int×Int×Int×Int×Int×Int×Int×Int×Int×Bool×Int×Int×Int×Int×Int×Zt)⊕(((List (List (Int×Int)))×Int×Int×Int×Int×Int×Int×Int×Int×Int×Bool×Int×Int×Int×Int×Int×Zt)⊕(((List (List (Int×Int)))×Int)⊕(List (List (Int×Int)))))
 | (v178,v179,v180,v181,v182,v183,v184,v185,v186,v187,v188,v189,v190,v191,v192,v193,v194,v195,v196,v197,v198,v199,v200,v201) =>
  (bif (decide ((v190:Int) < v189)) then
   (sI a0 a1 (v178,v179,v180,v181,(a1.1.1.getD ((tN v187)+tN v190) dF),v182,v183,v184,v185,v186,v187,v188,v189,v190,v191,v192,v193,v194,v195,v196,v197,v198,v199,v200,v201))
  else
   (.inr (.inl (v178,v179,v180,v182,v183,v184,v185,(v186+1),v191,v192,v193,v194,v195,v196,v197,v198,v199,v200,v201))))
noncomputable def aPq:Code:=(aN [1,1,1,0,1,0,1,1,0,1,1,1,1] [0] (aL Tryz.f23) []).1
noncomputable def aPr (m0:Nat):List K:=(aN [1,1,1,0,1,0,1,1,0,1,1,1,1] [m0] (aL Tryz.f23) []).2
def aJl (a0:Int)(a1:(List Int×bE)×(List (Int×Int×Bool))×List (List (Int×Int)))(v159c:List SV)(v159n:Nat)(v160 v161 v162 v163 v164 v165 v166 v167 v168:Int)(v169:Bool)(v170 v171 v172 v173 v174 v175 v176 v177:Int):LS:=⟨gO 100 [(3,(.p 4 0)),(5,(.s 5 0 v159n 1)),(7,(iv v160)),(8,(.p 6 0)),(10,(.p 7 0)),(11,(iv v161)),(30,(.s 2 0 a1.2.1.length 3)),(31,(iv (a1.2.1.length:Int))),(32,(iv v162)),(58,(.s 0 (0+tN v163*1) (tN v164 - tN v163) 1)),(59,(iv v165)),(60,(iv v166))],[(.live false true (flat c3 a1.1.1)),(.live false true (flat bZ a1.1.2)),(.live false true (flat eS a1.2.1)),(.live false true (flat jM a1.2.2)),(.live true false [(.s 0 0 a1.1.1.length 1),(.s 1 0 a1.1.2.length 8),(.s 2 0 a1.2.1.length 3),(.s 3 0 a1.2.2.length 1)]),(.live true true v159c),(.live true false [(iv v167),(iv v168),(.v (.bool v169))]),(.live true false [(iv v170),(iv v171),(iv v172),(iv v173),(iv v174),(iv v175),(iv v176),(iv v177)])]⟩
def lT (a0:Int)(a1:(List Int×bE)×(List (Int×Int×Bool))×List (List (Int×Int))):(List (List (Int×Int)))×Int×Int×Int×Int×Int×Int×Int×Int×Int×Bool×Int×Int×Int×Int×Int×Zt->((List (List (Int×Int)))×Int×Int×Int×Int×Int×Int×Int×Int×Int×Bool×Int×Int×Int×Int×Int×Zt)⊕(((List (List (Int×Int)))×Int)⊕(List (List (Int×Int))))
 | (v159,v160,v161,v162,v163,v164,v165,v166,v167,v168,v169,v170,v171,v172,v173,v174,v175,v176,v177) =>
  (bif (decide ((v166:Int) < v165)) then
   (aH (nF a0 a1) (tN ((((tN v171 - tN v170):Nat):Int) - 0)+1) (v159,v160,v161,(a1.1.1.getD ((tN v163)+tN v166) dF),v162,v163,v164,v165,v166,v170,v171,(((tN v171 - tN v170):Nat):Int),0,v167,v168,v169,v170,v171,v172,v173,v174,v175,v176,v177))
  else
   (.inr (.inl (v159,(v162+1)))))
noncomputable def aLu:Code:=(cC [1,1,1,1,0] [] (aL Tryz.f23)).1
noncomputable def aLv:List K:=(cC [1,1,1,1,0] [] (aL Tryz.f23)).2
def aHh (a0:Int)(a1:(List Int×bE)×(List (Int×Int×Bool))×List (List (Int×Int)))(v251c:List SV)(v251n:Nat):LS:=⟨gO 100 [(5,(.s 4 0 v251n 1))],[(.live false true (flat c3 a1.1.1)),(.live false true (flat bZ a1.1.2)),(.live false true (flat eS a1.2.1)),(.live false true (flat jM a1.2.2)),(.live true true v251c)]⟩
def vS (a0:Int)(a1:(List Int×bE)×(List (Int×Int×Bool))×List (List (Int×Int))):List (List (Int×Int))->List (List (Int×Int))
 | v251 =>
  v251
noncomputable def aPs:Code:=(aN [1,1,1,0,1] [] (aL Tryz.f23) []).1
noncomputable def aPt:List K:=(aN [1,1,1,0,1] [] (aL Tryz.f23) []).2
def aJm (a0:Int)(a1:(List Int×bE)×(List (Int×Int×Bool))×List (List (Int×Int)))(v10c:List SV)(v10n:Nat)(v11:Int):LS:=⟨gO 100 [(3,(.p 4 0)),(5,(.s 5 0 v10n 1)),(30,(.s 2 0 a1.2.1.length 3)),(31,(iv (a1.2.1.length:Int))),(32,(iv v11))],[(.live false true (flat c3 a1.1.1)),(.live false true (flat bZ a1.1.2)),(.live false true (flat eS a1.2.1)),(.live false true (flat jM a1.2.2)),(.live true false [(.s 0 0 a1.1.1.length 1),(.s 1 0 a1.1.2.length 8),(.s 2 0 a1.2.1.length 3),(.s 3 0 a1.2.2.length 1)]),(.live true true v10c)]⟩
def jV (a0:Int)(a1:(List Int×bE)×(List (Int×Int×Bool))×List (List (Int×Int))):(List (List (Int×Int)))×Int->((List (List (Int×Int)))×Int)⊕(List (List (Int×Int)))
 | (v10,v11) =>
  (bif (decide ((v11:Int) < (a1.2.1.length:Int))) then
   (aH (lT a0 a1) (tN ((((tN ((a1.1.2.getD (tN (a1.2.1.getD (tN v11) dF).1) dF).2.1) - tN ((a1.1.2.getD (tN (a1.2.1.getD (tN v11) dF).1) dF).1)):Nat):Int) - 0)+1) (v10,v11,0,v11,(a1.1.2.getD (tN (a1.2.1.getD (tN v11) dF).1) dF).1,(a1.1.2.getD (tN (a1.2.1.getD (tN v11) dF).1) dF).2.1,(((tN ((a1.1.2.getD (tN (a1.2.1.getD (tN v11) dF).1) dF).2.1) - tN ((a1.1.2.getD (tN (a1.2.1.getD (tN v11) dF).1) dF).1)):Nat):Int),0,(a1.2.1.getD (tN v11) dF).1,(a1.2.1.getD (tN v11) dF).2.1,(a1.2.1.getD (tN v11) dF).2.2,(a1.1.2.getD (tN (a1.2.1.getD (tN v11) dF).2.1) dF).1,(a1.1.2.getD (tN (a1.2.1.getD (tN v11) dF).2.1) dF).2.1,(a1.1.2.getD (tN (a1.2.1.getD (tN v11) dF).2.1) dF).2.2.1,(a1.1.2.getD (tN (a1.2.1.getD (tN v11) dF).2.1) dF).2.2.2.1,(a1.1.2.getD (tN (a1.2.1.getD (tN v11) dF).2.1) dF).2.2.2.2.1.1,(a1.1.2.getD (tN (a1.2.1.getD (tN v11) dF).2.1) dF).2.2.2.2.1.2.1,(a1.1.2.getD (tN (a1.2.1.getD (tN v11) dF).2.1) dF).2.2.2.2.1.2.2,(a1.1.2.getD (tN (a1.2.1.getD (tN v11) dF).2.1) dF).2.2.2.2.2))
  else
   (.inr (vS a0 a1 v10)))
noncomputable def aPu:Code:=(aN [1,1,0,1] [] (aL Tryz.f23) []).1
noncomputable def aPv:List K:=(aN [1,1,0,1] [] (aL Tryz.f23) []).2
def aJn (a0:Int)(a1:(List Int×bE)×(List (Int×Int×Bool))×List (List (Int×Int)))(v1c:List SV)(v1n:Nat)(v2:Int):LS:=⟨gO 100 [(0,(iv a0)),(3,(.p 4 0)),(5,(.s 5 0 v1n 1)),(19,(iv (((tN a0):Nat):Int))),(20,(iv v2))],[(.live false true (flat c3 a1.1.1)),(.live false true (flat bZ a1.1.2)),(.live false true (flat eS a1.2.1)),(.live false true (flat jM a1.2.2)),(.live true false [(.s 0 0 a1.1.1.length 1),(.s 1 0 a1.1.2.length 8),(.s 2 0 a1.2.1.length 3),(.s 3 0 a1.2.2.length 1)]),(.live true true v1c)]⟩
def nG (a0:Int)(a1:(List Int×bE)×(List (Int×Int×Bool))×List (List (Int×Int))):(List (List (Int×Int)))×Int->((List (List (Int×Int)))×Int)⊕(List (List (Int×Int)))
 | (v1,v2) =>
  (bif (decide ((v2:Int) < (((tN a0):Nat):Int))) then
   (xL a0 a1 (v1,v2,v2))
  else
   (.inr (aH (jV a0 a1) (tN ((a1.2.1.length:Int) - 0)+1) (v1,0))))
def aPw (a0:Int)(a1:(List Int×bE)×(List (Int×Int×Bool))×List (List (Int×Int)))(cx:Cx)(n0:Nat)(n1:Nat)(n:Nat):Prop:=∀(v178:List (List (Int×Int))) (v179 v180 v181 v182 v183 v184 v185 v186 v187 v188 v189 v190 v191 v192:Int) (v193:Bool) (v194 v195 v196 v197 v198 v199 v200 v201:Int) (vT:List (Option iF)) (tr:TabR jY (tN a0) vT v178),(0<=v190)/\(TL (tN a0) v178 (tN a0))/\(yM v180 v193 v186 (v195 - v194) v190)/\(v190<=v189)/\(v187=v194)/\(v188=v195)/\(v189=v195 - v194)/\(0<=v181)/\(v181 < a0)/\((0<=v182))/\((v182<=(a1.2.1.length:Int)))/\(v182 < (a1.2.1.length:Int))/\(tN ((a1.2.1.length:Int) - v182) < n0+1)/\((0<=v186))/\(((((a1.2.2.getD (tN v179) dF).length:Nat):Int)=bif v193 then 1 else(v184 - v183)*(v195 - v194)))/\((v186<=v185))/\((v179=v182))/\((0<=v183))/\((v183<=v184))/\((v184<=a1.1.1.length))/\((v185=v184 - v183))/\((0<=v194))/\((v194<=v195))/\((v195<=a1.1.1.length))/\(v186 < v185)/\(tN (v185 - v186) < n1+1)->tN (v189 - v190) < n->Aw.GoodT Tryz.prog none 9 (bodyPost Tryz.prog Tryz.f23 (RR cx (.s 4 0 (aZ (jV a0 a1) n0 (aZ (lT a0 a1) n1 (aH (nF a0 a1) n (v178,v179,v180,v181,v182,v183,v184,v185,v186,v187,v188,v189,v190,v191,v192,v193,v194,v195,v196,v197,v198,v199,v200,v201)))).length 1) [(.live true true (flat jM (aZ (jV a0 a1) n0 (aZ (lT a0 a1) n1 (aH (nF a0 a1) n (v178,v179,v180,v181,v182,v183,v184,v185,v186,v187,v188,v189,v190,v191,v192,v193,v194,v195,v196,v197,v198,v199,v200,v201))))))] [])) cx [] (tN a0) 2 vT (.l aLs n::aLt n0 n1) (aFf a0 a1 (flat (cO (tN a0)) vT) (vT.length) v179 v180 v181 v182 v183 v184 v185 v186 v187 v188 v189 v190 v191 v192 v193 v194 v195 v196 v197 v198 v199 v200 v201)
def aLw (a0:Int)(a1:(List Int×bE)×(List (Int×Int×Bool))×List (List (Int×Int)))(cx:Cx)(n0:Nat)(n:Nat):Prop:=∀(v159:List (List (Int×Int))) (v160 v161 v162 v163 v164 v165 v166 v167 v168:Int) (v169:Bool) (v170 v171 v172 v173 v174 v175 v176 v177:Int) (vT:List (Option iF)) (tr:TabR jY (tN a0) vT v159),(0<=v166)/\(TL (tN a0) v159 (tN a0))/\(yM v161 v169 v166 (v171 - v170) 0)/\((((a1.2.2.getD (tN v160) dF).length:Nat):Int)=bif v169 then 1 else(v164 - v163)*(v171 - v170))/\(v166<=v165)/\(v160=v162)/\(0<=v163)/\(v163<=v164)/\(v164<=a1.1.1.length)/\(v165=v164 - v163)/\(0<=v170)/\(v170<=v171)/\(v171<=a1.1.1.length)/\((0<=v162))/\((v162<=(a1.2.1.length:Int)))/\(v162 < (a1.2.1.length:Int))/\(tN ((a1.2.1.length:Int) - v162) < n0+1)->tN (v165 - v166) < n->Aw.GoodT Tryz.prog none 9 (bodyPost Tryz.prog Tryz.f23 (RR cx (.s 4 0 (aZ (jV a0 a1) n0 (aH (lT a0 a1) n (v159,v160,v161,v162,v163,v164,v165,v166,v167,v168,v169,v170,v171,v172,v173,v174,v175,v176,v177))).length 1) [(.live true true (flat jM (aZ (jV a0 a1) n0 (aH (lT a0 a1) n (v159,v160,v161,v162,v163,v164,v165,v166,v167,v168,v169,v170,v171,v172,v173,v174,v175,v176,v177)))))] [])) cx [] (tN a0) 2 vT (.l aPq n::aPr n0) (aJl a0 a1 (flat (cO (tN a0)) vT) (vT.length) v160 v161 v162 v163 v164 v165 v166 v167 v168 v169 v170 v171 v172 v173 v174 v175 v176 v177)
def aHi (a0:Int)(a1:(List Int×bE)×(List (Int×Int×Bool))×List (List (Int×Int)))(cx:Cx)(n:Nat):Prop:=∀(v10:List (List (Int×Int))) (v11:Int) (vT:List (Option iF)) (tr:TabR jY (tN a0) vT v10),(0<=v11)/\(TL (tN a0) v10 (tN a0))/\(v11<=(a1.2.1.length:Int))->tN ((a1.2.1.length:Int) - v11) < n->Aw.GoodT Tryz.prog none 9 (bodyPost Tryz.prog Tryz.f23 (RR cx (.s 4 0 (aH (jV a0 a1) n (v10,v11)).length 1) [(.live true true (flat jM (aH (jV a0 a1) n (v10,v11))))] [])) cx [] (tN a0) 2 vT (.l aPs n::aPt) (aJm a0 a1 (flat (cO (tN a0)) vT) (vT.length) v11)
def aPx (a0:Int)(a1:(List Int×bE)×(List (Int×Int×Bool))×List (List (Int×Int)))(cx:Cx)(n:Nat):Prop:=∀(v1:List (List (Int×Int))) (v2:Int) (vT:List (Option iF)) (tr:TabR jY (tN a0) vT v1),(0<=v2)/\(TL (tN a0) v1 (tN v2))/\(v2<=((tN a0:Nat):Int))->tN ((((tN a0):Nat):Int) - v2) < n->Aw.GoodT Tryz.prog none 9 (bodyPost Tryz.prog Tryz.f23 (RR cx (.s 4 0 (aH (nG a0 a1) n (v1,v2)).length 1) [(.live true true (flat jM (aH (nG a0 a1) n (v1,v2))))] [])) cx [] (tN a0) 2 vT (.l aPu n::aPv) (aJn a0 a1 (flat (cO (tN a0)) vT) (vT.length) v2)
theorem aT4 (a0:Int)(a1:(List Int×bE)×(List (Int×Int×Bool))×List (List (Int×Int)))(l1_1_1:a1.1.1.length<=2^63-1)(l1_1_2:a1.1.2.length<=2^63-1)(l1_2_1:a1.2.1.length<=2^63-1)(l1_2_2:a1.2.2.length<=2^63-1)(he:EntOK a0 a1) {cx:Cx} (hcx:cx.base=4)
 (n0:Nat) (g0:aPx a0 a1 cx n0) (v6:List (List (Int×Int))) (v7:Int) (vT:List (Option iF)) (tr:TabR jY (tN a0) vT v6):(TL (tN a0) v6 (tN v7+1))/\((0<=v7))/\((v7<=((tN a0:Nat):Int)))/\(v7 < (((tN a0):Nat):Int))/\(tN ((((tN a0):Nat):Int) - v7) < n0+1)->Aw.GoodT Tryz.prog none 9 (bodyPost Tryz.prog Tryz.f23 (RR cx (.s 4 0 (aZ (nG a0 a1) n0 (xK a0 a1 (v6,v7))).length 1) [(.live true true (flat jM (aZ (nG a0 a1) n0 (xK a0 a1 (v6,v7)))))] [])) cx [] (tN a0) 2 vT (.c aPn::aPo n0) (aLn a0 a1 (flat (cO (tN a0)) vT) (vT.length) v7):=by
 intro hi
 have hn1:=he.n1
 have htl:=hi.1
 have htl2:=htl.le (k:=tN (v7+1)) (by omega)
 have e:=Eq.refl (xK a0 a1 (v6,v7));conv at e=>rhs;simp only [xK]
 rw [e]
 refine baT [] [] [0,3,5,19,20] [4,5] hcx (m:=n0) aPu (aPv) (aJn a0 a1 (flat (cO (tN a0)) vT) (vT.length) (W (v7+1))) (by kernel_rfl) ⟨by kernel_rfl,by kernel_rfl⟩ ?_
 have z0:(W (v7+1))=(v7+1):=aR (by omega) (by omega)
 rw [z0]
 exact g0 v6 (v7+1) vT tr (by(repeat' apply And.intro)<;>(try simp only [Int.toNat_zero])<;>first | omega | assumption | exact TL.rep | exact uK) (by omega)
theorem aT5 (a0:Int)(a1:(List Int×bE)×(List (Int×Int×Bool))×List (List (Int×Int)))(l1_1_1:a1.1.1.length<=2^63-1)(l1_1_2:a1.1.2.length<=2^63-1)(l1_2_1:a1.2.1.length<=2^63-1)(l1_2_2:a1.2.2.length<=2^63-1)(he:EntOK a0 a1) {cx:Cx} (hcx:cx.base=4)
 (n0:Nat) (g0:aPx a0 a1 cx n0) (v3:List (List (Int×Int))) (v4 v5:Int) (vT:List (Option iF)) (tr:TabR jY (tN a0) vT v3):(TL (tN a0) v3 (tN v4))/\(v4=v5)/\((0<=v5))/\((v5<=((tN a0:Nat):Int)))/\(v5 < (((tN a0):Nat):Int))/\(tN ((((tN a0):Nat):Int) - v5) < n0+1)->Aw.GoodT Tryz.prog none 9 (bodyPost Tryz.prog Tryz.f23 (RR cx (.s 4 0 (aZ (nG a0 a1) n0 (xL a0 a1 (v3,v4,v5))).length 1) [(.live true true (flat jM (aZ (nG a0 a1) n0 (xL a0 a1 (v3,v4,v5)))))] [])) cx [] (tN a0) 2 vT (.c aJk::aPp n0) (aLo a0 a1 (flat (cO (tN a0)) vT) (vT.length) v4 v5):=by
 intro hi
 have e:=Eq.refl (xL a0 a1 (v3,v4,v5));conv at e=>rhs;simp only [xL]
 rw [e]
 have hn1:=he.n1
 have hvl:=tr.length
 have htl:=hi.1
 have htl0:=htl.1
 have htl1:=htl.next (l:=List.replicate (tN a0) ((0,0):Int×Int)) (by omega) (by simp)
 have htl2:=htl1.le (k:=tN v5+1) (by omega)
 refine GoodT.makeE hT hm (B:=aJk) (by kernel_rfl) 4 (by kernel_rfl) (fun id cap=>vT.set (tN v4) (some (id,cap,(flat jY (List.replicate (tN a0) (0,0)))))) [.Z jY (0,0) [(iv 0),(iv 0)] a0 16] (fun id cap=>[.i v4 vT.length (by omega),.p (show 0+tN v4*1+1<=(flat (cO (tN a0)) vT).length from by rw [bW aBs];omega)]) 26 6 (tN v4) true (flat jY (List.replicate (tN a0) (0,0))) hcx (by kernel_rfl) ⟨by kernel_rfl,by kernel_rfl⟩ (by kernel_rfl) (by kernel_rfl) (fZ (c:=jY) (fun _=>rfl) _) (by rw [bW gP,List.length_replicate]) (by omega) (fun id cap=>by kernel_rfl) (fun id cap=>⟨by kernel_rfl,by kernel_rfl⟩) (fun id cap=>aPh) (fun id cap=>?_)
 refine gaT [.z 6] [] [0,3,5,19,20] [4,5] hcx aPn (aPo n0) (aLn a0 a1 (splice (flat (cO (tN a0)) vT) (0+tN v4*1) [(.v (lX (tN a0) (id,cap,(flat jY (List.replicate (tN a0) (0,0))))))]) (vT.length) v5) (by kernel_rfl) ⟨by kernel_rfl,by kernel_rfl⟩ ?_
 have tr1:=tr.set (tN v4) (id,cap,(flat jY (List.replicate (tN a0) (0,0)))) (List.replicate (tN a0) (0,0)) (by simp) rfl
 rw [show(splice (flat (cO (tN a0)) vT) (0+tN v4*1) [(.v (lX (tN a0) (id,cap,(flat jY (List.replicate (tN a0) (0,0))))))])=flat (cO (tN a0)) (vT.set (tN v4) (some (id,cap,(flat jY (List.replicate (tN a0) (0,0)))))) from bB aBs (by omega) (o:=0) (d:=none) (Nat.le_refl 1) (qM (aBs _))]
 rw [show vT.length=(vT.set (tN v4) (some (id,cap,(flat jY (List.replicate (tN a0) (0,0)))))).length from by simp]
 exact aT4 a0 a1 l1_1_1 l1_1_2 l1_2_1 l1_2_2 he hcx n0 g0 (v3.set (tN v4) (List.replicate (tN a0) (0,0))) v5 (vT.set (tN v4) (some (id,cap,(flat jY (List.replicate (tN a0) (0,0)))))) tr1 (by(repeat' apply And.intro)<;>(try simp only [Int.toNat_zero])<;>first | omega | assumption | exact TL.rep | exact uK)
theorem aRs (a0:Int)(a1:(List Int×bE)×(List (Int×Int×Bool))×List (List (Int×Int)))(l1_1_1:a1.1.1.length<=2^63-1)(l1_1_2:a1.1.2.length<=2^63-1)(l1_2_1:a1.2.1.length<=2^63-1)(l1_2_2:a1.2.2.length<=2^63-1)(he:EntOK a0 a1) {cx:Cx} (hcx:cx.base=4)
 (n0:Nat) (g0:aHi a0 a1 cx n0)
 (n1:Nat) (g1:aLw a0 a1 cx n0 n1)
 (n2:Nat) (g2:aPw a0 a1 cx n0 n1 n2) (v227:List (List (Int×Int))) (v228 v229 v230 v231 v232 v233 v234 v235 v236 v237 v238 v239 v240 v241:Int) (v242:Bool) (v243 v244 v245 v246 v247 v248 v249 v250:Int) (vT:List (Option iF)) (tr:TabR jY (tN a0) vT v227):(TL (tN a0) v227 (tN a0))/\(yM v229 v242 v235 (v244 - v243) v239)/\((((a1.2.2.getD (tN v228) dF).length:Nat):Int)=bif v242 then 1 else(v233 - v232)*(v244 - v243))/\((0<=v231))/\((v231<=(a1.2.1.length:Int)))/\(v231 < (a1.2.1.length:Int))/\(tN ((a1.2.1.length:Int) - v231) < n0+1)/\((0<=v235))/\(((((a1.2.2.getD (tN v228) dF).length:Nat):Int)=bif v242 then 1 else(v233 - v232)*(v244 - v243)))/\((v235<=v234))/\((v228=v231))/\((0<=v232))/\((v232<=v233))/\((v233<=a1.1.1.length))/\((v234=v233 - v232))/\((0<=v243))/\((v243<=v244))/\((v244<=a1.1.1.length))/\(v235 < v234)/\(tN (v234 - v235) < n1+1)/\((0<=v239))/\((v239<=v238))/\((v236=v243))/\((v237=v244))/\((v238=v244 - v243))/\((0<=v230))/\((v230 < a0))/\(v239 < v238)/\(tN (v238 - v239) < n2+1)->Aw.GoodT Tryz.prog none 9 (bodyPost Tryz.prog Tryz.f23 (RR cx (.s 4 0 (aZ (jV a0 a1) n0 (aZ (lT a0 a1) n1 (aZ (nF a0 a1) n2 (nV a0 a1 (v227,v228,v229,v230,v231,v232,v233,v234,v235,v236,v237,v238,v239,v240,v241,v242,v243,v244,v245,v246,v247,v248,v249,v250))))).length 1) [(.live true true (flat jM (aZ (jV a0 a1) n0 (aZ (lT a0 a1) n1 (aZ (nF a0 a1) n2 (nV a0 a1 (v227,v228,v229,v230,v231,v232,v233,v234,v235,v236,v237,v238,v239,v240,v241,v242,v243,v244,v245,v246,v247,v248,v249,v250)))))))] [])) cx [] (tN a0) 2 vT (.c aLp::aLq n0 n1 n2) (aHf a0 a1 (flat (cO (tN a0)) vT) (vT.length) v228 v229 v230 v231 v232 v233 v234 v235 v236 v237 v238 v239 v240 v241 v242 v243 v244 v245 v246 v247 v248 v249 v250):=by
 intro hi
 have hnz:=he.nz (by omega)
 have hsl:(((a1.2.2.getD (tN v228) dF).length:Nat):Int)=bif v242 then 1 else(v233 - v232)*(v244 - v243):=by have q:=hi;repeat (first | exact q.1 | replace q:=q.2)
 have hn1:=he.n1
 have hsp:=he.sp
 have hol:=he.ol
 have htl:=hi.1
 have hat:=hi.2.1
 have hsb:=he.sl (tN v228)
 have hao:=aLl hi.2.1 hi.2.2.1 (by omega) (by omega)
 have hw:=aR (n:=v229+1) (by omega) (by omega)
 cases h0:(!v242) with
 | true =>
  try have ha1:yM (W (v229+1)) v242 v235 (v244 - v243) (v239+1):=by rw [hw];exact aLm hi.2.1 h0
  have e:=Eq.refl (nV a0 a1 (v227,v228,v229,v230,v231,v232,v233,v234,v235,v236,v237,v238,v239,v240,v241,v242,v243,v244,v245,v246,v247,v248,v249,v250));conv at e=>rhs;simp only [nV,h0,aW]
  rw [e]
  refine baT [.d h0] [] [3,5,7,8,10,11,13,30,31,32,58,59,60,71,72,73] [4,5,6,7] hcx (m:=n2) aLs (aLt n0 n1) (aFf a0 a1 (flat (cO (tN a0)) vT) (vT.length) v228 (W (v229+1)) v230 v231 v232 v233 v234 v235 v236 v237 v238 (W (v239+1)) v240 v241 v242 v243 v244 v245 v246 v247 v248 v249 v250) (by kernel_rfl) ⟨by kernel_rfl,by kernel_rfl⟩ ?_
  have z0:(W (v239+1))=(v239+1):=aR (by omega) (by omega)
  rw [z0]
  exact g2 v227 v228 (W (v229+1)) v230 v231 v232 v233 v234 v235 v236 v237 v238 (v239+1) v240 v241 v242 v243 v244 v245 v246 v247 v248 v249 v250 vT tr (by(repeat' apply And.intro)<;>(try simp only [Int.toNat_zero])<;>first | omega | assumption | exact TL.rep | exact uK) (by omega)
 | false =>
  try have ha2:=aPl hi.2.1 h0 (v239+1)
  have e:=Eq.refl (nV a0 a1 (v227,v228,v229,v230,v231,v232,v233,v234,v235,v236,v237,v238,v239,v240,v241,v242,v243,v244,v245,v246,v247,v248,v249,v250));conv at e=>rhs;simp only [nV,h0,aW]
  rw [e]
  refine baT [.d h0] [] [3,5,7,8,10,11,13,30,31,32,58,59,60,71,72,73] [4,5,6,7] hcx (m:=n2) aLs (aLt n0 n1) (aFf a0 a1 (flat (cO (tN a0)) vT) (vT.length) v228 v229 v230 v231 v232 v233 v234 v235 v236 v237 v238 (W (v239+1)) v240 v241 v242 v243 v244 v245 v246 v247 v248 v249 v250) (by kernel_rfl) ⟨by kernel_rfl,by kernel_rfl⟩ ?_
  have z0:(W (v239+1))=(v239+1):=aR (by omega) (by omega)
  rw [z0]
  exact g2 v227 v228 v229 v230 v231 v232 v233 v234 v235 v236 v237 v238 (v239+1) v240 v241 v242 v243 v244 v245 v246 v247 v248 v249 v250 vT tr (by(repeat' apply And.intro)<;>(try simp only [Int.toNat_zero])<;>first | omega | assumption | exact TL.rep | exact uK) (by omega)
theorem aRt (a0:Int)(a1:(List Int×bE)×(List (Int×Int×Bool))×List (List (Int×Int)))(l1_1_1:a1.1.1.length<=2^63-1)(l1_1_2:a1.1.2.length<=2^63-1)(l1_2_1:a1.2.1.length<=2^63-1)(l1_2_2:a1.2.2.length<=2^63-1)(he:EntOK a0 a1) {cx:Cx} (hcx:cx.base=4)
 (n0:Nat) (g0:aHi a0 a1 cx n0)
 (n1:Nat) (g1:aLw a0 a1 cx n0 n1)
 (n2:Nat) (g2:aPw a0 a1 cx n0 n1 n2) (v202:List (List (Int×Int))) (v203 v204 v205 v206 v207 v208 v209 v210 v211 v212 v213 v214 v215 v216 v217:Int) (v218:Bool) (v219 v220 v221 v222 v223 v224 v225 v226:Int) (vT:List (Option iF)) (tr:TabR jY (tN a0) vT v202):(TL (tN a0) v202 (tN a0))/\(yM v204 v218 v211 (v220 - v219) v215)/\((((a1.2.2.getD (tN v203) dF).length:Nat):Int)=bif v218 then 1 else(v209 - v208)*(v220 - v219))/\(0<=v206)/\(v206 < a0)/\((0<=v207))/\((v207<=(a1.2.1.length:Int)))/\(v207 < (a1.2.1.length:Int))/\(tN ((a1.2.1.length:Int) - v207) < n0+1)/\((0<=v211))/\(((((a1.2.2.getD (tN v203) dF).length:Nat):Int)=bif v218 then 1 else(v209 - v208)*(v220 - v219)))/\((v211<=v210))/\((v203=v207))/\((0<=v208))/\((v208<=v209))/\((v209<=a1.1.1.length))/\((v210=v209 - v208))/\((0<=v219))/\((v219<=v220))/\((v220<=a1.1.1.length))/\(v211 < v210)/\(tN (v210 - v211) < n1+1)/\((0<=v215))/\((v215<=v214))/\((v212=v219))/\((v213=v220))/\((v214=v220 - v219))/\((0<=v205))/\((v205 < a0))/\(v215 < v214)/\(tN (v214 - v215) < n2+1)->Aw.GoodT Tryz.prog none 9 (bodyPost Tryz.prog Tryz.f23 (RR cx (.s 4 0 (aZ (jV a0 a1) n0 (aZ (lT a0 a1) n1 (aZ (nF a0 a1) n2 (sI a0 a1 (v202,v203,v204,v205,v206,v207,v208,v209,v210,v211,v212,v213,v214,v215,v216,v217,v218,v219,v220,v221,v222,v223,v224,v225,v226))))).length 1) [(.live true true (flat jM (aZ (jV a0 a1) n0 (aZ (lT a0 a1) n1 (aZ (nF a0 a1) n2 (sI a0 a1 (v202,v203,v204,v205,v206,v207,v208,v209,v210,v211,v212,v213,v214,v215,v216,v217,v218,v219,v220,v221,v222,v223,v224,v225,v226)))))))] [])) cx [] (tN a0) 2 vT (.c aFe::aLr n0 n1 n2) (aHg a0 a1 (flat (cO (tN a0)) vT) (vT.length) v203 v204 v205 v206 v207 v208 v209 v210 v211 v212 v213 v214 v215 v216 v217 v218 v219 v220 v221 v222 v223 v224 v225 v226):=by
 intro hi
 have e:=Eq.refl (sI a0 a1 (v202,v203,v204,v205,v206,v207,v208,v209,v210,v211,v212,v213,v214,v215,v216,v217,v218,v219,v220,v221,v222,v223,v224,v225,v226));conv at e=>rhs;simp only [sI]
 rw [e]
 have hn1:=he.n1
 have hnz:=he.nz (by omega)
 have hvl:=tr.length
 have htl:=hi.1
 have htl0:=htl.1
 have hsp:=he.sp
 have hat1:=hi.2.1
 have hsl:=hi.2.2.1
 have hxl:=htl.2 (tN v205) (by omega)
 obtain⟨xr,hxr,hxc⟩:=tr.get (tN v205) (by omega) hxl (by omega)
 have hxi:0<=v205/\v205 < (vT.length:Int):=by omega
 have hat:=aLl hi.2.1 hi.2.2.1 (by omega) (by omega)
 have hs:splice xr.2.2 (0+tN v206*2) (k2 ((a1.2.2.getD (tN v203) dF).getD (tN v204) dF))=flat jY ((v202.getD (tN v205) []).set (tN v206) ((a1.2.2.getD (tN v203) dF).getD (tN v204) dF)):=by rw [hxc];exact bB gP (by omega) (o:=0) (d:=dF) (Nat.le_refl 2) (qM (gP _))
 refine GoodT.putE hT hm (B:=aFe) (by kernel_rfl) 13 (by kernel_rfl) [.i v205 (vT.length),.l [(.v (lX (tN a0) xr))] (aPk hxi hxr),.i v203 (a1.2.2.length),.L jK a1.2.2 v203 0 1,.p (fZ (c:=jY) (fun _=>rfl) (a1.2.2.getD (tN v203) dF)),.i v204 ((a1.2.2.getD (tN v203) dF).length),.L gP (a1.2.2.getD (tN v203) dF) v204 0 2] [.i v206 (tN a0) (by omega),.p (show 0+tN v206*2+2<=xr.2.2.length from by rw [hxc,bW gP,hxl];omega)] [.kill 8] 80 (tN v205) xr (splice xr.2.2 (0+tN v206*2) (k2 ((a1.2.2.getD (tN v203) dF).getD (tN v204) dF))) hcx (by kernel_rfl) (by kernel_rfl) (by kernel_rfl) ⟨by kernel_rfl,by kernel_rfl⟩ (by kernel_rfl) hxr (by kernel_rfl) ⟨by kernel_rfl,by kernel_rfl⟩ (by kernel_rfl) (by rw [hs];exact fZ (c:=jY) (fun _=>rfl) _) (by rw [hs,bW gP,List.length_set,hxl]) ?_
 refine gaT [.z 19] [] [3,5,7,8,10,11,13,30,31,32,58,59,60,71,72,73] [4,5,6,7] hcx aLp (aLq n0 n1 n2) (aHf a0 a1 (flat (cO (tN a0)) vT) (vT.length) v203 v204 v205 v207 v208 v209 v210 v211 v212 v213 v214 v215 v216 v217 v218 v219 v220 v221 v222 v223 v224 v225 v226) (by kernel_rfl) ⟨by kernel_rfl,by kernel_rfl⟩ ?_
 have tr1:=tr.set (tN v205) (xr.1,xr.2.1,splice xr.2.2 (0+tN v206*2) (k2 ((a1.2.2.getD (tN v203) dF).getD (tN v204) dF))) ((v202.getD (tN v205) []).set (tN v206) ((a1.2.2.getD (tN v203) dF).getD (tN v204) dF)) (by rw [List.length_set,hxl]) hs
 have htl1:=htl.set (l:=(v202.getD (tN v205) []).set (tN v206) ((a1.2.2.getD (tN v203) dF).getD (tN v204) dF)) (by rw [List.length_set,hxl]) (tN v205)
 rw [←yL (nn:=(tN a0)) hxr (splice xr.2.2 (0+tN v206*2) (k2 ((a1.2.2.getD (tN v203) dF).getD (tN v204) dF)))]
 rw [show vT.length=(vT.set (tN v205) (some (xr.1,xr.2.1,splice xr.2.2 (0+tN v206*2) (k2 ((a1.2.2.getD (tN v203) dF).getD (tN v204) dF))))).length from by simp]
 exact aRs a0 a1 l1_1_1 l1_1_2 l1_2_1 l1_2_2 he hcx n0 g0 n1 g1 n2 g2 (v202.set (tN v205) ((v202.getD (tN v205) []).set (tN v206) ((a1.2.2.getD (tN v203) dF).getD (tN v204) dF))) v203 v204 v205 v207 v208 v209 v210 v211 v212 v213 v214 v215 v216 v217 v218 v219 v220 v221 v222 v223 v224 v225 v226 (vT.set (tN v205) (some (xr.1,xr.2.1,splice xr.2.2 (0+tN v206*2) (k2 ((a1.2.2.getD (tN v203) dF).getD (tN v204) dF))))) tr1 (by(repeat' apply And.intro)<;>(try simp only [Int.toNat_zero])<;>first | omega | assumption | exact TL.rep | exact uK)
theorem aV1 (a0:Int)(a1:(List Int×bE)×(List (Int×Int×Bool))×List (List (Int×Int)))(l1_1_1:a1.1.1.length<=2^63-1)(l1_1_2:a1.1.2.length<=2^63-1)(l1_2_1:a1.2.1.length<=2^63-1)(l1_2_2:a1.2.2.length<=2^63-1)(he:EntOK a0 a1) {cx:Cx} (hcx:cx.base=4)
 (n0:Nat) (g0:aHi a0 a1 cx n0)
 (n1:Nat) (g1:aLw a0 a1 cx n0 n1):∀n:Nat,aPw a0 a1 cx n0 n1 n:=by
 intro n
 induction n with
 | zero=>intro v178 v179 v180 v181 v182 v183 v184 v185 v186 v187 v188 v189 v190 v191 v192 v193 v194 v195 v196 v197 v198 v199 v200 v201 vT tr hi hn;exact absurd hn (eL _)
 | succ n ih =>
  intro v178 v179 v180 v181 v182 v183 v184 v185 v186 v187 v188 v189 v190 v191 v192 v193 v194 v195 v196 v197 v198 v199 v200 v201 vT tr hi hn
  refine GoodT.round ?_
  have hnz:=he.nz (by omega)
  have hsl:(((a1.2.2.getD (tN v179) dF).length:Nat):Int)=bif v193 then 1 else(v184 - v183)*(v195 - v194):=by have q:=hi;repeat (first | exact q.1 | replace q:=q.2)
  have hn1:=he.n1
  have hsp:=he.sp
  have hol:=he.ol
  have htl:=hi.2.1
  have hat:=hi.2.2.1
  have hr1:=he.ord.atD (by omega) (tN v187+tN v190)
  cases h0:(decide ((v190:Int) < v189)) with
  | true =>
   have q0:=cN h0
   have e:=Eq.refl (nF a0 a1 (v178,v179,v180,v181,v182,v183,v184,v185,v186,v187,v188,v189,v190,v191,v192,v193,v194,v195,v196,v197,v198,v199,v200,v201));conv at e=>rhs;simp only [nF,h0,aW]
   rw [aK,e]
   refine gaT [.d h0,.i v190 (tN v188 - tN v187),cM aF (a1.1.1) (tN v187) v190 0 1,.z 18] [] [3,5,7,8,10,11,13,15,30,31,32,58,59,60,71,72,73] [4,5,6,7] hcx aFe (aLr n0 n1 n) (aHg a0 a1 (flat (cO (tN a0)) vT) (vT.length) v179 v180 v181 (a1.1.1.getD ((tN v187)+tN v190) dF) v182 v183 v184 v185 v186 v187 v188 v189 v190 v191 v192 v193 v194 v195 v196 v197 v198 v199 v200 v201) (by kernel_rfl) ⟨by kernel_rfl,by kernel_rfl⟩ ?_
   exact aRt a0 a1 l1_1_1 l1_1_2 l1_2_1 l1_2_2 he hcx n0 g0 n1 g1 n ih v178 v179 v180 v181 (a1.1.1.getD ((tN v187)+tN v190) dF) v182 v183 v184 v185 v186 v187 v188 v189 v190 v191 v192 v193 v194 v195 v196 v197 v198 v199 v200 v201 vT tr (by(repeat' apply And.intro)<;>(try simp only [Int.toNat_zero])<;>first | omega | assumption | exact TL.rep | exact uK)
  | false =>
   have q0:=cY h0
   try have har:=aPm hi.2.2.1 (by have _:=cY h0;omega)
   have e:=Eq.refl (nF a0 a1 (v178,v179,v180,v181,v182,v183,v184,v185,v186,v187,v188,v189,v190,v191,v192,v193,v194,v195,v196,v197,v198,v199,v200,v201));conv at e=>rhs;simp only [nF,h0,aW]
   rw [aK,e]
   refine baT [.d h0] [] [3,5,7,8,10,11,30,31,32,58,59,60] [4,5,6,7] hcx (m:=n1) aPq (aPr n0) (aJl a0 a1 (flat (cO (tN a0)) vT) (vT.length) v179 v180 v182 v183 v184 v185 (W (v186+1)) v191 v192 v193 v194 v195 v196 v197 v198 v199 v200 v201) (by kernel_rfl) ⟨by kernel_rfl,by kernel_rfl⟩ ?_
   have z0:(W (v186+1))=(v186+1):=aR (by omega) (by omega)
   rw [z0]
   exact g1 v178 v179 v180 v182 v183 v184 v185 (v186+1) v191 v192 v193 v194 v195 v196 v197 v198 v199 v200 v201 vT tr (by(repeat' apply And.intro)<;>(try simp only [Int.toNat_zero])<;>first | omega | assumption | exact TL.rep | exact uK) (by omega)
theorem aV2 (a0:Int)(a1:(List Int×bE)×(List (Int×Int×Bool))×List (List (Int×Int)))(l1_1_1:a1.1.1.length<=2^63-1)(l1_1_2:a1.1.2.length<=2^63-1)(l1_2_1:a1.2.1.length<=2^63-1)(l1_2_2:a1.2.2.length<=2^63-1)(he:EntOK a0 a1) {cx:Cx} (hcx:cx.base=4)
 (n0:Nat) (g0:aHi a0 a1 cx n0):∀n:Nat,aLw a0 a1 cx n0 n:=by
 intro n
 induction n with
 | zero=>intro v159 v160 v161 v162 v163 v164 v165 v166 v167 v168 v169 v170 v171 v172 v173 v174 v175 v176 v177 vT tr hi hn;exact absurd hn (eL _)
 | succ n ih =>
  intro v159 v160 v161 v162 v163 v164 v165 v166 v167 v168 v169 v170 v171 v172 v173 v174 v175 v176 v177 vT tr hi hn
  refine GoodT.round ?_
  have hnz:=he.nz (by omega)
  have hsl:(((a1.2.2.getD (tN v160) dF).length:Nat):Int)=bif v169 then 1 else(v164 - v163)*(v171 - v170):=by have q:=hi;repeat (first | exact q.1 | replace q:=q.2)
  have hn1:=he.n1
  have hsp:=he.sp
  have hol:=he.ol
  have htl:=hi.2.1
  have hat:=hi.2.2.1
  have hr1:=he.ord.atD (by omega) (tN v163+tN v166)
  cases h0:(decide ((v166:Int) < v165)) with
  | true =>
   have q0:=cN h0
   have e:=Eq.refl (lT a0 a1 (v159,v160,v161,v162,v163,v164,v165,v166,v167,v168,v169,v170,v171,v172,v173,v174,v175,v176,v177));conv at e=>rhs;simp only [lT,h0,aW]
   rw [aK,e]
   refine enT [.d h0,.i v166 (tN v164 - tN v163),cM aF (a1.1.1) (tN v163) v166 0 1,.sub v170 v171 (a1.1.1.length)] [] [3,5,7,8,10,11,13,30,31,32,58,59,60,71,72,73] [4,5,6,7] hcx aLs (aLt n0 n) (aFf a0 a1 (flat (cO (tN a0)) vT) (vT.length) v160 v161 (a1.1.1.getD ((tN v163)+tN v166) dF) v162 v163 v164 v165 v166 v170 v171 (((tN v171 - tN v170):Nat):Int) 0 v167 v168 v169 v170 v171 v172 v173 v174 v175 v176 v177) (tN ((((tN v171 - tN v170):Nat):Int) - 0)+1) (by kernel_rfl) ⟨by kernel_rfl,by kernel_rfl⟩ ?_
   exact aV1 a0 a1 l1_1_1 l1_1_2 l1_2_1 l1_2_2 he hcx n0 g0 n ih (tN ((((tN v171 - tN v170):Nat):Int) - 0)+1) v159 v160 v161 (a1.1.1.getD ((tN v163)+tN v166) dF) v162 v163 v164 v165 v166 v170 v171 (((tN v171 - tN v170):Nat):Int) 0 v167 v168 v169 v170 v171 v172 v173 v174 v175 v176 v177 vT tr (by(repeat' apply And.intro)<;>(try simp only [Int.toNat_zero])<;>first | omega | assumption | exact TL.rep | exact uK) (by omega)
  | false =>
   have q0:=cY h0
   have e:=Eq.refl (lT a0 a1 (v159,v160,v161,v162,v163,v164,v165,v166,v167,v168,v169,v170,v171,v172,v173,v174,v175,v176,v177));conv at e=>rhs;simp only [lT,h0,aW]
   rw [aK,e]
   refine baT [.d h0] [] [3,5,30,31,32] [4,5] hcx (m:=n0) aPs (aPt) (aJm a0 a1 (flat (cO (tN a0)) vT) (vT.length) (W (v162+1))) (by kernel_rfl) ⟨by kernel_rfl,by kernel_rfl⟩ ?_
   have z0:(W (v162+1))=(v162+1):=aR (by omega) (by omega)
   rw [z0]
   exact g0 v159 (v162+1) vT tr (by(repeat' apply And.intro)<;>(try simp only [Int.toNat_zero])<;>first | omega | assumption | exact TL.rep | exact uK) (by omega)
theorem aRu (a0:Int)(a1:(List Int×bE)×(List (Int×Int×Bool))×List (List (Int×Int)))(l1_1_1:a1.1.1.length<=2^63-1)(l1_1_2:a1.1.2.length<=2^63-1)(l1_2_1:a1.2.1.length<=2^63-1)(l1_2_2:a1.2.2.length<=2^63-1)(he:EntOK a0 a1) {cx:Cx} (hcx:cx.base=4)(v251:List (List (Int×Int)))(vT:List (Option iF))(tr:TabR jY (tN a0) vT v251):TL (tN a0) v251 (tN a0)->Aw.GoodT Tryz.prog none 9 (bodyPost Tryz.prog Tryz.f23 (RR cx (.s 4 0 (vS a0 a1 v251).length 1) [(.live true true (flat jM (vS a0 a1 v251)))] [])) cx [] (tN a0) 2 vT (.c aLu::aLv) (aHh a0 a1 (flat (cO (tN a0)) vT) (vT.length)):=by
 intro hi
 have e:=Eq.refl (vS a0 a1 v251);conv at e=>rhs;simp only [vS]
 rw [e]
 have hln:=tr.length
 obtain⟨rws,hrw,hfl⟩:=tr.rows' (cT:=jM) (es:=2) (fun _=>rfl) hi.1 (fun i h=>hi.2 i (by have:=hi.1;omega))
 subst hrw
 rw [hln,aFd]
 refine GoodT.freeze (rows:=rws) 4 (by kernel_rfl) ?_
 rw [hfl]
 exact rt [] [] [4] hcx (by kernel_rfl)
theorem aV3 (a0:Int)(a1:(List Int×bE)×(List (Int×Int×Bool))×List (List (Int×Int)))(l1_1_1:a1.1.1.length<=2^63-1)(l1_1_2:a1.1.2.length<=2^63-1)(l1_2_1:a1.2.1.length<=2^63-1)(l1_2_2:a1.2.2.length<=2^63-1)(he:EntOK a0 a1) {cx:Cx} (hcx:cx.base=4):∀n:Nat,aHi a0 a1 cx n:=by
 intro n
 induction n with
 | zero=>intro v10 v11 vT tr hi hn;exact absurd hn (eL _)
 | succ n ih =>
  intro v10 v11 vT tr hi hn
  refine GoodT.round ?_
  have hn1:=he.n1
  have hsp:=he.sp
  have hol:=he.ol
  have htl:=hi.2.1
  cases h0:(decide ((v11:Int) < (a1.2.1.length:Int))) with
  | true =>
   have q0:=cN h0
   try have hb:=he.blk v11 hi.1 (cN h0)
   try have hb1:=(fun _=>hb.1) h0
   try have hb2:=(fun _=>hb.2.1) h0
   try have hb3:=(fun _=>hb.2.2.1) h0
   try have hb4:=(fun _=>hb.2.2.2.1) h0
   try have hb5:=(fun _=>hb.2.2.2.2) h0
   have e:=Eq.refl (jV a0 a1 (v10,v11));conv at e=>rhs;simp only [jV,h0,aW]
   rw [aK,e]
   refine enT [.d h0,.i v11 (a1.2.1.length),.L eB a1.2.1 v11 0 3,.i ((a1.2.1.getD (tN v11) dF).1) (a1.1.2.length),.L bU a1.1.2 (a1.2.1.getD (tN v11) dF).1 0 8,.i ((a1.2.1.getD (tN v11) dF).2.1) (a1.1.2.length),.L bU a1.1.2 (a1.2.1.getD (tN v11) dF).2.1 0 8,.sub ((a1.1.2.getD (tN (a1.2.1.getD (tN v11) dF).1) dF).1) ((a1.1.2.getD (tN (a1.2.1.getD (tN v11) dF).1) dF).2.1) (a1.1.1.length)] [] [3,5,7,8,10,11,30,31,32,58,59,60] [4,5,6,8] hcx aPq (aPr n) (aJl a0 a1 (flat (cO (tN a0)) vT) (vT.length) v11 0 v11 ((a1.1.2.getD (tN (a1.2.1.getD (tN v11) dF).1) dF).1) ((a1.1.2.getD (tN (a1.2.1.getD (tN v11) dF).1) dF).2.1) (((tN ((a1.1.2.getD (tN (a1.2.1.getD (tN v11) dF).1) dF).2.1) - tN ((a1.1.2.getD (tN (a1.2.1.getD (tN v11) dF).1) dF).1)):Nat):Int) 0 ((a1.2.1.getD (tN v11) dF).1) ((a1.2.1.getD (tN v11) dF).2.1) ((a1.2.1.getD (tN v11) dF).2.2) ((a1.1.2.getD (tN (a1.2.1.getD (tN v11) dF).2.1) dF).1) ((a1.1.2.getD (tN (a1.2.1.getD (tN v11) dF).2.1) dF).2.1) ((a1.1.2.getD (tN (a1.2.1.getD (tN v11) dF).2.1) dF).2.2.1) ((a1.1.2.getD (tN (a1.2.1.getD (tN v11) dF).2.1) dF).2.2.2.1) ((a1.1.2.getD (tN (a1.2.1.getD (tN v11) dF).2.1) dF).2.2.2.2.1.1) ((a1.1.2.getD (tN (a1.2.1.getD (tN v11) dF).2.1) dF).2.2.2.2.1.2.1) ((a1.1.2.getD (tN (a1.2.1.getD (tN v11) dF).2.1) dF).2.2.2.2.1.2.2) ((a1.1.2.getD (tN (a1.2.1.getD (tN v11) dF).2.1) dF).2.2.2.2.2)) (tN ((((tN ((a1.1.2.getD (tN (a1.2.1.getD (tN v11) dF).1) dF).2.1) - tN ((a1.1.2.getD (tN (a1.2.1.getD (tN v11) dF).1) dF).1)):Nat):Int) - 0)+1) (by kernel_rfl) ⟨by kernel_rfl,by kernel_rfl⟩ ?_
   exact aV2 a0 a1 l1_1_1 l1_1_2 l1_2_1 l1_2_2 he hcx n ih (tN ((((tN ((a1.1.2.getD (tN (a1.2.1.getD (tN v11) dF).1) dF).2.1) - tN ((a1.1.2.getD (tN (a1.2.1.getD (tN v11) dF).1) dF).1)):Nat):Int) - 0)+1) v10 v11 0 v11 ((a1.1.2.getD (tN (a1.2.1.getD (tN v11) dF).1) dF).1) ((a1.1.2.getD (tN (a1.2.1.getD (tN v11) dF).1) dF).2.1) (((tN ((a1.1.2.getD (tN (a1.2.1.getD (tN v11) dF).1) dF).2.1) - tN ((a1.1.2.getD (tN (a1.2.1.getD (tN v11) dF).1) dF).1)):Nat):Int) 0 ((a1.2.1.getD (tN v11) dF).1) ((a1.2.1.getD (tN v11) dF).2.1) ((a1.2.1.getD (tN v11) dF).2.2) ((a1.1.2.getD (tN (a1.2.1.getD (tN v11) dF).2.1) dF).1) ((a1.1.2.getD (tN (a1.2.1.getD (tN v11) dF).2.1) dF).2.1) ((a1.1.2.getD (tN (a1.2.1.getD (tN v11) dF).2.1) dF).2.2.1) ((a1.1.2.getD (tN (a1.2.1.getD (tN v11) dF).2.1) dF).2.2.2.1) ((a1.1.2.getD (tN (a1.2.1.getD (tN v11) dF).2.1) dF).2.2.2.2.1.1) ((a1.1.2.getD (tN (a1.2.1.getD (tN v11) dF).2.1) dF).2.2.2.2.1.2.1) ((a1.1.2.getD (tN (a1.2.1.getD (tN v11) dF).2.1) dF).2.2.2.2.1.2.2) ((a1.1.2.getD (tN (a1.2.1.getD (tN v11) dF).2.1) dF).2.2.2.2.2) vT tr (by(repeat' apply And.intro)<;>(try simp only [Int.toNat_zero])<;>first | omega | assumption | exact TL.rep | exact uK) (by omega)
  | false =>
   have q0:=cY h0
   have e:=Eq.refl (jV a0 a1 (v10,v11));conv at e=>rhs;simp only [jV,h0,aW]
   rw [aK,e]
   refine gaT [.d h0,.z 24] [] [5] [5] hcx aLu (aLv) (aHh a0 a1 (flat (cO (tN a0)) vT) (vT.length)) (by kernel_rfl) ⟨by kernel_rfl,by kernel_rfl⟩ ?_
   exact aRu a0 a1 l1_1_1 l1_1_2 l1_2_1 l1_2_2 he hcx v10 vT tr (by(repeat' apply And.intro)<;>(try simp only [Int.toNat_zero])<;>first | omega | assumption | exact TL.rep | exact uK)
theorem aV4 (a0:Int)(a1:(List Int×bE)×(List (Int×Int×Bool))×List (List (Int×Int)))(l1_1_1:a1.1.1.length<=2^63-1)(l1_1_2:a1.1.2.length<=2^63-1)(l1_2_1:a1.2.1.length<=2^63-1)(l1_2_2:a1.2.2.length<=2^63-1)(he:EntOK a0 a1) {cx:Cx} (hcx:cx.base=4):∀n:Nat,aPx a0 a1 cx n:=by
 intro n
 induction n with
 | zero=>intro v1 v2 vT tr hi hn;exact absurd hn (eL _)
 | succ n ih =>
  intro v1 v2 vT tr hi hn
  refine GoodT.round ?_
  have hn1:=he.n1
  have hsp:=he.sp
  have htl:=hi.2.1
  cases h0:(decide ((v2:Int) < (((tN a0):Nat):Int))) with
  | true =>
   have q0:=cN h0
   have e:=Eq.refl (nG a0 a1 (v1,v2));conv at e=>rhs;simp only [nG,h0,aW]
   rw [aK,e]
   refine gaT [.d h0,.z 5] [] [0,3,5,6,19,20] [4,5] hcx aJk (aPp n) (aLo a0 a1 (flat (cO (tN a0)) vT) (vT.length) v2 v2) (by kernel_rfl) ⟨by kernel_rfl,by kernel_rfl⟩ ?_
   exact aT5 a0 a1 l1_1_1 l1_1_2 l1_2_1 l1_2_2 he hcx n ih v1 v2 v2 vT tr (by(repeat' apply And.intro)<;>(try simp only [Int.toNat_zero])<;>first | omega | assumption | exact TL.rep | exact uK)
  | false =>
   have q0:=cY h0
   try have htl2:=htl.le (k:=tN a0) (by have _:=cY h0;omega)
   have e:=Eq.refl (nG a0 a1 (v1,v2));conv at e=>rhs;simp only [nG,h0,aW]
   rw [aK,e]
   refine enT [.d h0] [] [3,5,30,31,32] [4,5] hcx aPs (aPt) (aJm a0 a1 (flat (cO (tN a0)) vT) (vT.length) 0) (tN ((a1.2.1.length:Int) - 0)+1) (by kernel_rfl) ⟨by kernel_rfl,by kernel_rfl⟩ ?_
   exact aV3 a0 a1 l1_1_1 l1_1_2 l1_2_1 l1_2_2 he hcx (tN ((a1.2.1.length:Int) - 0)+1) v1 0 vT tr (by(repeat' apply And.intro)<;>(try simp only [Int.toNat_zero])<;>first | omega | assumption | exact TL.rep | exact uK) (by omega)
def F23 (a0:Int)(a1:(List Int×bE)×(List (Int×Int×Bool))×List (List (Int×Int))):List (List (Int×Int)) :=
 (aH (nG a0 a1) (tN ((((tN a0):Nat):Int) - 0)+1) ((List.replicate (tN a0) []),0))
theorem C23 (a0:Int)(a1:(List Int×bE)×(List (Int×Int×Bool))×List (List (Int×Int)))(l1_1_1:a1.1.1.length<=2^63-1)(l1_1_2:a1.1.2.length<=2^63-1)(l1_2_1:a1.2.1.length<=2^63-1)(l1_2_2:a1.2.2.length<=2^63-1)(he:EntOK a0 a1):Con Tryz.prog 23 [(iv a0),(.a [(.s 0 0 a1.1.1.length 1),(.s 1 0 a1.1.2.length 8),(.s 2 0 a1.2.1.length 3),(.s 3 0 a1.2.2.length 1)])] [(.live false true (flat c3 a1.1.1)),(.live false true (flat bZ a1.1.2)),(.live false true (flat eS a1.2.1)),(.live false true (flat jM a1.2.2))] (.s 4 0 (F23 a0 a1).length 1) [(.live true true (flat jM (F23 a0 a1)))]:=by
 refine bA Tryz.func23 (by kernel_rfl) fun cx hcx=>?_
 have hn1:=he.n1
 have hsp:=he.sp
 have e:=Eq.refl (F23 a0 a1);conv at e=>rhs;simp only [F23]
 rw [e]
 refine en [.Z (cO (tN a0)) none [(.v (.slice none 0 0))] a0 24] [] [0,3,5,19,20] [4,5] hcx aPu (aPv) (aJn a0 a1 (flat (cO (tN a0)) (List.replicate (tN a0) none)) (tN a0) 0) (tN ((((tN a0):Nat):Int) - 0)+1) (by kernel_rfl) ?_
 refine GoodT.none (nn:=(tN a0)) (es:=2) (rows:=List.replicate (tN a0) none) aPj ?_
 have q:=aV4 a0 a1 l1_1_1 l1_1_2 l1_2_1 l1_2_2 he hcx (tN ((((tN a0):Nat):Int) - 0)+1) (List.replicate (tN a0) []) 0 (List.replicate (tN a0) none) (TabR.rep _) (by(repeat' apply And.intro)<;>(try simp only [Int.toNat_zero])<;>first | omega | assumption | exact TL.rep | exact uK) (by omega)
 simp only [List.length_replicate] at q
 exact q
end Go.Proofs.YtkdfcbmcgnaicaaGreat
namespace Go.Proofs.YtkdfcbmcgnaicaaGreat
open Go.Proofs Go.Aw Go.RowKit
set_option maxRecDepth 100000
noncomputable def aHj:Code:=(cC [1,1,0,1,0,0,1,1] [0] (aL Tryz.f26)).1
noncomputable def aHk (m0:Nat):List K:=(cC [1,1,0,1,0,0,1,1] [m0] (aL Tryz.f26)).2
def aC0 (a0:bT)(a1:(List Int×bE)×(List (Int×Int×Bool))×List (List (Int×Int)))(v8c:List SV)(v8n:Nat)(v9:Int):LS:=⟨gO 104 [(0,(.s 0 0 a0.length 10)),(3,(.p 5 0)),(5,(.s 6 0 v8n 1)),(6,(iv v9))],[(.live false true (flat dI a0)),(.live false true (flat c3 a1.1.1)),(.live false true (flat bZ a1.1.2)),(.live false true (flat eS a1.2.1)),(.live false true (flat jM a1.2.2)),(.live true false [(.s 1 0 a1.1.1.length 1),(.s 2 0 a1.1.2.length 8),(.s 3 0 a1.2.1.length 3),(.s 4 0 a1.2.2.length 1)]),(.live true true v8c)]⟩
def pA (a0:bT)(a1:(List Int×bE)×(List (Int×Int×Bool))×List (List (Int×Int))):(List (List (Int×Int)))×Int->((List (List (Int×Int)))×Int)⊕(List (List (Int×Int)))
 | (v8,v9) =>
  (.inl (v8,(v9+1)))
noncomputable def aBt:Code:=(cC [1,1,0,1,0,0,1,0,0] [0] (aL Tryz.f26)).1
noncomputable def aHl (m0:Nat):List K:=(cC [1,1,0,1,0,0,1,0,0] [m0] (aL Tryz.f26)).2
def aC1 (a0:bT)(a1:(List Int×bE)×(List (Int×Int×Bool))×List (List (Int×Int)))(v6c:List SV)(v6n:Nat)(v7:Int):LS:=⟨gO 104 [(0,(.s 0 0 a0.length 10)),(3,(.p 5 0)),(5,(.s 6 0 v6n 1)),(6,(iv v7))],[(.live false true (flat dI a0)),(.live false true (flat c3 a1.1.1)),(.live false true (flat bZ a1.1.2)),(.live false true (flat eS a1.2.1)),(.live false true (flat jM a1.2.2)),(.live true false [(.s 1 0 a1.1.1.length 1),(.s 2 0 a1.1.2.length 8),(.s 3 0 a1.2.1.length 3),(.s 4 0 a1.2.2.length 1)]),(.live true true v6c)]⟩
def pB (a0:bT)(a1:(List Int×bE)×(List (Int×Int×Bool))×List (List (Int×Int))):(List (List (Int×Int)))×Int->((List (List (Int×Int)))×Int)⊕(List (List (Int×Int)))
 | (v6,v7) =>
  (pA a0 a1 ((v6++[List.replicate a0.length (0,0)]),v7))
noncomputable def aC2:Code:=(cC [1,1,1,0,1,0,0,1,0,0,1,1,1,0,0,1,0,0,1,0,0,1,0,0,1,0] [0,0,0] (aL Tryz.f26)).1
noncomputable def aC3 (m0:Nat)(m1:Nat)(m2:Nat):List K:=(cC [1,1,1,0,1,0,0,1,0,0,1,1,1,0,0,1,0,0,1,0,0,1,0,0,1,0] [m0,m1,m2] (aL Tryz.f26)).2
def aBu (a0:bT)(a1:(List Int×bE)×(List (Int×Int×Bool))×List (List (Int×Int)))(v176c:List SV)(v176n:Nat)(v177 v178 v179 v180 v181 v182 v183 v184 v185 v186 v187 v188 v189 v190 v191 v192 v193 v194 v195 v196:Int):LS:=⟨gO 104 [(3,(.p 5 0)),(5,(.s 6 0 v176n 1)),(7,(iv v177)),(8,(.p 7 0)),(9,(.p 8 0)),(10,(iv v178)),(11,(iv v179)),(12,(iv v180))],[(.live false true (flat dI a0)),(.live false true (flat c3 a1.1.1)),(.live false true (flat bZ a1.1.2)),(.live false true (flat eS a1.2.1)),(.live false true (flat jM a1.2.2)),(.live true false [(.s 1 0 a1.1.1.length 1),(.s 2 0 a1.1.2.length 8),(.s 3 0 a1.2.1.length 3),(.s 4 0 a1.2.2.length 1)]),(.live true true v176c),(.live true false [(iv v181),(iv v182),(iv v183),(iv v184),(iv v185),(iv v186),(iv v187),(iv v188)]),(.live true false [(iv v189),(iv v190),(iv v191),(iv v192),(iv v193),(iv v194),(iv v195),(iv v196)])]⟩
def jW (a0:bT)(a1:(List Int×bE)×(List (Int×Int×Bool))×List (List (Int×Int))):(List (List (Int×Int)))×Int×Int×Int×Int×Int×Int×Int×Int×Int×Int×Int×Int×Int×Int×Int×Int×Int×Zt->((List (List (Int×Int)))×Int×Int×Int×Int×Int×Int×Int×Int×Int×Int×Int×Int×Int×Int×Int×Int×Int×Zt)⊕(((List (List (Int×Int)))×Int×Int×Int×Int×Int×Int×Int×Int×Int×Int×Int×Int×Int×Int×Int×Int×Zt)⊕(((List (List (Int×Int)))×Int)⊕(List (List (Int×Int)))))
 | (v176,v177,v178,v179,v180,v181,v182,v183,v184,v185,v186,v187,v188,v189,v190,v191,v192,v193,v194,v195,v196) =>
  (bif (!(a1.2.1.getD (tN v177) dF).2.2) then
   (.inl (v176,v177,(W (v178+1)),v179,(v180+1),v181,v182,v183,v184,v185,v186,v187,v188,v189,v190,v191,v192,v193,v194,v195,v196))
  else
   (.inl (v176,v177,v178,v179,(v180+1),v181,v182,v183,v184,v185,v186,v187,v188,v189,v190,v191,v192,v193,v194,v195,v196)))
noncomputable def xM:Code:=(cC [1,1,1,0,1,0,0,1,0,0,1,1,1,0,0,1,0,0,1,0,0,1,0,0,0] [0,0,0] (aL Tryz.f26)).1
noncomputable def aC4 (m0:Nat)(m1:Nat)(m2:Nat):List K:=(cC [1,1,1,0,1,0,0,1,0,0,1,1,1,0,0,1,0,0,1,0,0,1,0,0,0] [m0,m1,m2] (aL Tryz.f26)).2
def aBv (a0:bT)(a1:(List Int×bE)×(List (Int×Int×Bool))×List (List (Int×Int)))(v155c:List SV)(v155n:Nat)(v156 v157 v158 v159 v160 v161 v162 v163 v164 v165 v166 v167 v168 v169 v170 v171 v172 v173 v174 v175:Int):LS:=⟨gO 104 [(3,(.p 5 0)),(5,(.s 6 0 v155n 1)),(7,(iv v156)),(8,(.p 7 0)),(9,(.p 8 0)),(10,(iv v157)),(11,(iv v158)),(12,(iv v159))],[(.live false true (flat dI a0)),(.live false true (flat c3 a1.1.1)),(.live false true (flat bZ a1.1.2)),(.live false true (flat eS a1.2.1)),(.live false true (flat jM a1.2.2)),(.live true false [(.s 1 0 a1.1.1.length 1),(.s 2 0 a1.1.2.length 8),(.s 3 0 a1.2.1.length 3),(.s 4 0 a1.2.2.length 1)]),(.live true true v155c),(.live true false [(iv v160),(iv v161),(iv v162),(iv v163),(iv v164),(iv v165),(iv v166),(iv v167)]),(.live true false [(iv v168),(iv v169),(iv v170),(iv v171),(iv v172),(iv v173),(iv v174),(iv v175)])]⟩
def mO (a0:bT)(a1:(List Int×bE)×(List (Int×Int×Bool))×List (List (Int×Int))):(List (List (Int×Int)))×Int×Int×Int×Int×Int×Int×Int×Int×Int×Int×Int×Int×Int×Int×Int×Int×Int×Zt->((List (List (Int×Int)))×Int×Int×Int×Int×Int×Int×Int×Int×Int×Int×Int×Int×Int×Int×Int×Int×Int×Zt)⊕(((List (List (Int×Int)))×Int×Int×Int×Int×Int×Int×Int×Int×Int×Int×Int×Int×Int×Int×Int×Int×Zt)⊕(((List (List (Int×Int)))×Int)⊕(List (List (Int×Int)))))
 | (v155,v156,v157,v158,v159,v160,v161,v162,v163,v164,v165,v166,v167,v168,v169,v170,v171,v172,v173,v174,v175) =>
  (jW a0 a1 ((v155.set (tN (a1.1.1.getD (tN v158) dF)) ((v155.getD (tN (a1.1.1.getD (tN v158) dF)) []).set (tN (a1.1.1.getD (tN v159) dF)) ((a1.2.2.getD (tN v156) dF).getD (tN v157) dF))),v156,v157,v158,v159,v160,v161,v162,v163,v164,v165,v166,v167,v168,v169,v170,v171,v172,v173,v174,v175))
noncomputable def zD:Code:=(aN [1,1,1,0,1,0,1,0,1,1,1,0,1,0,1] [0,0] (aL Tryz.f26) []).1
noncomputable def zE (m0:Nat)(m1:Nat):List K:=(aN [1,1,1,0,1,0,1,0,1,1,1,0,1,0,1] [m0,m1] (aL Tryz.f26) []).2
def vU (a0:bT)(a1:(List Int×bE)×(List (Int×Int×Bool))×List (List (Int×Int)))(v134c:List SV)(v134n:Nat)(v135 v136 v137 v138 v139 v140 v141 v142 v143 v144 v145 v146 v147 v148 v149 v150 v151 v152 v153 v154:Int):LS:=⟨gO 104 [(3,(.p 5 0)),(5,(.s 6 0 v134n 1)),(7,(iv v135)),(8,(.p 7 0)),(9,(.p 8 0)),(10,(iv v136)),(11,(iv v137)),(12,(iv v138))],[(.live false true (flat dI a0)),(.live false true (flat c3 a1.1.1)),(.live false true (flat bZ a1.1.2)),(.live false true (flat eS a1.2.1)),(.live false true (flat jM a1.2.2)),(.live true false [(.s 1 0 a1.1.1.length 1),(.s 2 0 a1.1.2.length 8),(.s 3 0 a1.2.1.length 3),(.s 4 0 a1.2.2.length 1)]),(.live true true v134c),(.live true false [(iv v139),(iv v140),(iv v141),(iv v142),(iv v143),(iv v144),(iv v145),(iv v146)]),(.live true false [(iv v147),(iv v148),(iv v149),(iv v150),(iv v151),(iv v152),(iv v153),(iv v154)])]⟩
def hX (a0:bT)(a1:(List Int×bE)×(List (Int×Int×Bool))×List (List (Int×Int))):(List (List (Int×Int)))×Int×Int×Int×Int×Int×Int×Int×Int×Int×Int×Int×Int×Int×Int×Int×Int×Int×Zt->((List (List (Int×Int)))×Int×Int×Int×Int×Int×Int×Int×Int×Int×Int×Int×Int×Int×Int×Int×Int×Int×Zt)⊕(((List (List (Int×Int)))×Int×Int×Int×Int×Int×Int×Int×Int×Int×Int×Int×Int×Int×Int×Int×Int×Zt)⊕(((List (List (Int×Int)))×Int)⊕(List (List (Int×Int)))))
 | (v134,v135,v136,v137,v138,v139,v140,v141,v142,v143,v144,v145,v146,v147,v148,v149,v150,v151,v152,v153,v154) =>
  (bif (decide ((v138:Int) < v148)) then
   (mO a0 a1 (v134,v135,v136,v137,v138,v139,v140,v141,v142,v143,v144,v145,v146,v147,v148,v149,v150,v151,v152,v153,v154))
  else
   (.inr (.inl (v134,v135,v136,(v137+1),v139,v140,v141,v142,v143,v144,v145,v146,v147,v148,v149,v150,v151,v152,v153,v154))))
noncomputable def aFg:Code:=(aN [1,1,1,0,1,0,1,0,1,1,1] [0] (aL Tryz.f26) []).1
noncomputable def aFh (m0:Nat):List K:=(aN [1,1,1,0,1,0,1,0,1,1,1] [m0] (aL Tryz.f26) []).2
def aBw (a0:bT)(a1:(List Int×bE)×(List (Int×Int×Bool))×List (List (Int×Int)))(v114c:List SV)(v114n:Nat)(v115 v116 v117 v118 v119 v120 v121 v122 v123 v124 v125 v126 v127 v128 v129 v130 v131 v132 v133:Int):LS:=⟨gO 104 [(3,(.p 5 0)),(5,(.s 6 0 v114n 1)),(7,(iv v115)),(8,(.p 7 0)),(9,(.p 8 0)),(10,(iv v116)),(11,(iv v117))],[(.live false true (flat dI a0)),(.live false true (flat c3 a1.1.1)),(.live false true (flat bZ a1.1.2)),(.live false true (flat eS a1.2.1)),(.live false true (flat jM a1.2.2)),(.live true false [(.s 1 0 a1.1.1.length 1),(.s 2 0 a1.1.2.length 8),(.s 3 0 a1.2.1.length 3),(.s 4 0 a1.2.2.length 1)]),(.live true true v114c),(.live true false [(iv v118),(iv v119),(iv v120),(iv v121),(iv v122),(iv v123),(iv v124),(iv v125)]),(.live true false [(iv v126),(iv v127),(iv v128),(iv v129),(iv v130),(iv v131),(iv v132),(iv v133)])]⟩
def gG (a0:bT)(a1:(List Int×bE)×(List (Int×Int×Bool))×List (List (Int×Int))):(List (List (Int×Int)))×Int×Int×Int×Int×Int×Int×Int×Int×Int×Int×Int×Int×Int×Int×Int×Int×Zt->((List (List (Int×Int)))×Int×Int×Int×Int×Int×Int×Int×Int×Int×Int×Int×Int×Int×Int×Int×Int×Zt)⊕(((List (List (Int×Int)))×Int)⊕(List (List (Int×Int))))
 | (v114,v115,v116,v117,v118,v119,v120,v121,v122,v123,v124,v125,v126,v127,v128,v129,v130,v131,v132,v133) =>
  (bif (decide ((v117:Int) < v119)) then
   (aH (hX a0 a1) (tN (v127 - v126)+1) (v114,v115,v116,v117,v126,v118,v119,v120,v121,v122,v123,v124,v125,v126,v127,v128,v129,v130,v131,v132,v133))
  else
   (.inr (.inl (v114,(v115+1)))))
noncomputable def aC5:Code:=(cC [1,1,1,1,0] [] (aL Tryz.f26)).1
noncomputable def aC6:List K:=(cC [1,1,1,1,0] [] (aL Tryz.f26)).2
def aBx (a0:bT)(a1:(List Int×bE)×(List (Int×Int×Bool))×List (List (Int×Int)))(v197c:List SV)(v197n:Nat):LS:=⟨gO 104 [(5,(.s 5 0 v197n 1))],[(.live false true (flat dI a0)),(.live false true (flat c3 a1.1.1)),(.live false true (flat bZ a1.1.2)),(.live false true (flat eS a1.2.1)),(.live false true (flat jM a1.2.2)),(.live true true v197c)]⟩
def pC (a0:bT)(a1:(List Int×bE)×(List (Int×Int×Bool))×List (List (Int×Int))):List (List (Int×Int))->List (List (Int×Int))
 | v197 =>
  v197
noncomputable def aFi:Code:=(aN [1,1,1,0,1] [] (aL Tryz.f26) []).1
noncomputable def aFj:List K:=(aN [1,1,1,0,1] [] (aL Tryz.f26) []).2
def aBy (a0:bT)(a1:(List Int×bE)×(List (Int×Int×Bool))×List (List (Int×Int)))(v12c:List SV)(v12n:Nat)(v13:Int):LS:=⟨gO 104 [(3,(.p 5 0)),(5,(.s 6 0 v12n 1)),(7,(iv v13))],[(.live false true (flat dI a0)),(.live false true (flat c3 a1.1.1)),(.live false true (flat bZ a1.1.2)),(.live false true (flat eS a1.2.1)),(.live false true (flat jM a1.2.2)),(.live true false [(.s 1 0 a1.1.1.length 1),(.s 2 0 a1.1.2.length 8),(.s 3 0 a1.2.1.length 3),(.s 4 0 a1.2.2.length 1)]),(.live true true v12c)]⟩
def fL (a0:bT)(a1:(List Int×bE)×(List (Int×Int×Bool))×List (List (Int×Int))):(List (List (Int×Int)))×Int->((List (List (Int×Int)))×Int)⊕(List (List (Int×Int)))
 | (v12,v13) =>
  (bif (decide ((v13:Int) < (a1.2.1.length:Int))) then
   (aH (gG a0 a1) (tN ((a1.1.2.getD (tN (a1.2.1.getD (tN v13) dF).1) dF).2.1 - (a1.1.2.getD (tN (a1.2.1.getD (tN v13) dF).1) dF).1)+1) (v12,v13,0,(a1.1.2.getD (tN (a1.2.1.getD (tN v13) dF).1) dF).1,(a1.1.2.getD (tN (a1.2.1.getD (tN v13) dF).1) dF).1,(a1.1.2.getD (tN (a1.2.1.getD (tN v13) dF).1) dF).2.1,(a1.1.2.getD (tN (a1.2.1.getD (tN v13) dF).1) dF).2.2.1,(a1.1.2.getD (tN (a1.2.1.getD (tN v13) dF).1) dF).2.2.2.1,(a1.1.2.getD (tN (a1.2.1.getD (tN v13) dF).1) dF).2.2.2.2.1.1,(a1.1.2.getD (tN (a1.2.1.getD (tN v13) dF).1) dF).2.2.2.2.1.2.1,(a1.1.2.getD (tN (a1.2.1.getD (tN v13) dF).1) dF).2.2.2.2.1.2.2,(a1.1.2.getD (tN (a1.2.1.getD (tN v13) dF).1) dF).2.2.2.2.2,(a1.1.2.getD (tN (a1.2.1.getD (tN v13) dF).2.1) dF).1,(a1.1.2.getD (tN (a1.2.1.getD (tN v13) dF).2.1) dF).2.1,(a1.1.2.getD (tN (a1.2.1.getD (tN v13) dF).2.1) dF).2.2.1,(a1.1.2.getD (tN (a1.2.1.getD (tN v13) dF).2.1) dF).2.2.2.1,(a1.1.2.getD (tN (a1.2.1.getD (tN v13) dF).2.1) dF).2.2.2.2.1.1,(a1.1.2.getD (tN (a1.2.1.getD (tN v13) dF).2.1) dF).2.2.2.2.1.2.1,(a1.1.2.getD (tN (a1.2.1.getD (tN v13) dF).2.1) dF).2.2.2.2.1.2.2,(a1.1.2.getD (tN (a1.2.1.getD (tN v13) dF).2.1) dF).2.2.2.2.2))
  else
   (.inr (pC a0 a1 v12)))
noncomputable def aFk:Code:=(aN [1,1,0,1] [] (aL Tryz.f26) []).1
noncomputable def aFl:List K:=(aN [1,1,0,1] [] (aL Tryz.f26) []).2
def aBz (a0:bT)(a1:(List Int×bE)×(List (Int×Int×Bool))×List (List (Int×Int)))(v4c:List SV)(v4n:Nat)(v5:Int):LS:=⟨gO 104 [(0,(.s 0 0 a0.length 10)),(3,(.p 5 0)),(5,(.s 6 0 v4n 1)),(6,(iv v5))],[(.live false true (flat dI a0)),(.live false true (flat c3 a1.1.1)),(.live false true (flat bZ a1.1.2)),(.live false true (flat eS a1.2.1)),(.live false true (flat jM a1.2.2)),(.live true false [(.s 1 0 a1.1.1.length 1),(.s 2 0 a1.1.2.length 8),(.s 3 0 a1.2.1.length 3),(.s 4 0 a1.2.2.length 1)]),(.live true true v4c)]⟩
def hY (a0:bT)(a1:(List Int×bE)×(List (Int×Int×Bool))×List (List (Int×Int))):(List (List (Int×Int)))×Int->((List (List (Int×Int)))×Int)⊕(List (List (Int×Int)))
 | (v4,v5) =>
  (bif (decide ((v5:Int) < (a0.length:Int))) then
   (pB a0 a1 (v4,v5))
  else
   (.inr (aH (fL a0 a1) (tN ((a1.2.1.length:Int) - 0)+1) (v4,0))))
def aFm (a0:bT)(a1:(List Int×bE)×(List (Int×Int×Bool))×List (List (Int×Int)))(cx:Cx)(n0:Nat)(n1:Nat)(n:Nat):Prop:=∀(v134:List (List (Int×Int))) (v135 v136 v137 v138 v139 v140 v141 v142 v143 v144 v145 v146 v147 v148 v149 v150 v151 v152 v153 v154:Int) (vT:List (Option iF)) (tr:TabR jY a0.length vT v134),(0<=v138)/\(TL a0.length v134 a0.length)/\(yM v136 (a1.2.1.getD (tN v135) dF).2.2 (v137 - v139) (v148 - v147) (v138 - v147))/\(v147<=v138)/\(v138<=v148)/\((0<=v135))/\((v135<=(a1.2.1.length:Int)))/\(v135 < (a1.2.1.length:Int))/\(tN ((a1.2.1.length:Int) - v135) < n0+1)/\((0<=v137))/\(((((a1.2.2.getD (tN v135) dF).length:Nat):Int)=bif (a1.2.1.getD (tN v135) dF).2.2 then 1 else(v140 - v139)*(v148 - v147)))/\((v139<=v137))/\((v137<=v140))/\((0<=v139))/\((v140<=a1.1.1.length))/\((0<=v147))/\((v147<=v148))/\((v148<=a1.1.1.length))/\(v137 < v140)/\(tN (v140 - v137) < n1+1)->tN (v148 - v138) < n->Aw.GoodT Tryz.prog none 9 (bodyPost Tryz.prog Tryz.f26 (RR cx (.s 5 0 (aZ (fL a0 a1) n0 (aZ (gG a0 a1) n1 (aH (hX a0 a1) n (v134,v135,v136,v137,v138,v139,v140,v141,v142,v143,v144,v145,v146,v147,v148,v149,v150,v151,v152,v153,v154)))).length 1) [(.live true true (flat jM (aZ (fL a0 a1) n0 (aZ (gG a0 a1) n1 (aH (hX a0 a1) n (v134,v135,v136,v137,v138,v139,v140,v141,v142,v143,v144,v145,v146,v147,v148,v149,v150,v151,v152,v153,v154))))))] [])) cx [] a0.length 2 vT (.l zD n::zE n0 n1) (vU a0 a1 (flat (cO a0.length) vT) (vT.length) v135 v136 v137 v138 v139 v140 v141 v142 v143 v144 v145 v146 v147 v148 v149 v150 v151 v152 v153 v154)
def zF (a0:bT)(a1:(List Int×bE)×(List (Int×Int×Bool))×List (List (Int×Int)))(cx:Cx)(n0:Nat)(n:Nat):Prop:=∀(v114:List (List (Int×Int))) (v115 v116 v117 v118 v119 v120 v121 v122 v123 v124 v125 v126 v127 v128 v129 v130 v131 v132 v133:Int) (vT:List (Option iF)) (tr:TabR jY a0.length vT v114),(0<=v117)/\(TL a0.length v114 a0.length)/\(yM v116 (a1.2.1.getD (tN v115) dF).2.2 (v117 - v118) (v127 - v126) 0)/\((((a1.2.2.getD (tN v115) dF).length:Nat):Int)=bif (a1.2.1.getD (tN v115) dF).2.2 then 1 else(v119 - v118)*(v127 - v126))/\(v118<=v117)/\(v117<=v119)/\(0<=v118)/\(v119<=a1.1.1.length)/\(0<=v126)/\(v126<=v127)/\(v127<=a1.1.1.length)/\((0<=v115))/\((v115<=(a1.2.1.length:Int)))/\(v115 < (a1.2.1.length:Int))/\(tN ((a1.2.1.length:Int) - v115) < n0+1)->tN (v119 - v117) < n->Aw.GoodT Tryz.prog none 9 (bodyPost Tryz.prog Tryz.f26 (RR cx (.s 5 0 (aZ (fL a0 a1) n0 (aH (gG a0 a1) n (v114,v115,v116,v117,v118,v119,v120,v121,v122,v123,v124,v125,v126,v127,v128,v129,v130,v131,v132,v133))).length 1) [(.live true true (flat jM (aZ (fL a0 a1) n0 (aH (gG a0 a1) n (v114,v115,v116,v117,v118,v119,v120,v121,v122,v123,v124,v125,v126,v127,v128,v129,v130,v131,v132,v133)))))] [])) cx [] a0.length 2 vT (.l aFg n::aFh n0) (aBw a0 a1 (flat (cO a0.length) vT) (vT.length) v115 v116 v117 v118 v119 v120 v121 v122 v123 v124 v125 v126 v127 v128 v129 v130 v131 v132 v133)
def vV (a0:bT)(a1:(List Int×bE)×(List (Int×Int×Bool))×List (List (Int×Int)))(cx:Cx)(n:Nat):Prop:=∀(v12:List (List (Int×Int))) (v13:Int) (vT:List (Option iF)) (tr:TabR jY a0.length vT v12),(0<=v13)/\(TL a0.length v12 a0.length)/\(v13<=(a1.2.1.length:Int))->tN ((a1.2.1.length:Int) - v13) < n->Aw.GoodT Tryz.prog none 9 (bodyPost Tryz.prog Tryz.f26 (RR cx (.s 5 0 (aH (fL a0 a1) n (v12,v13)).length 1) [(.live true true (flat jM (aH (fL a0 a1) n (v12,v13))))] [])) cx [] a0.length 2 vT (.l aFi n::aFj) (aBy a0 a1 (flat (cO a0.length) vT) (vT.length) v13)
def aFn (a0:bT)(a1:(List Int×bE)×(List (Int×Int×Bool))×List (List (Int×Int)))(cx:Cx)(n:Nat):Prop:=∀(v4:List (List (Int×Int))) (v5:Int) (vT:List (Option iF)) (tr:TabR jY a0.length vT v4),(0<=v5)/\(TK a0.length (tN v5) v4)/\(v5<=(a0.length:Int))->tN ((a0.length:Int) - v5) < n->Aw.GoodT Tryz.prog none 9 (bodyPost Tryz.prog Tryz.f26 (RR cx (.s 5 0 (aH (hY a0 a1) n (v4,v5)).length 1) [(.live true true (flat jM (aH (hY a0 a1) n (v4,v5))))] [])) cx [] a0.length 2 vT (.l aFk n::aFl) (aBz a0 a1 (flat (cO a0.length) vT) (vT.length) v5)
theorem aPy (a0:bT)(a1:(List Int×bE)×(List (Int×Int×Bool))×List (List (Int×Int)))(l0:a0.length<=2^63-1)(l1_1_1:a1.1.1.length<=2^63-1)(l1_1_2:a1.1.2.length<=2^63-1)(l1_2_1:a1.2.1.length<=2^63-1)(l1_2_2:a1.2.2.length<=2^63-1)(he:EntOK a0.length a1) {cx:Cx} (hcx:cx.base=5)
 (n0:Nat) (g0:aFn a0 a1 cx n0) (v8:List (List (Int×Int))) (v9:Int) (vT:List (Option iF)) (tr:TabR jY a0.length vT v8):(TK a0.length (tN v9+1) v8)/\((0<=v9))/\((v9<=(a0.length:Int)))/\(v9 < (a0.length:Int))/\(tN ((a0.length:Int) - v9) < n0+1)->Aw.GoodT Tryz.prog none 9 (bodyPost Tryz.prog Tryz.f26 (RR cx (.s 5 0 (aZ (hY a0 a1) n0 (pA a0 a1 (v8,v9))).length 1) [(.live true true (flat jM (aZ (hY a0 a1) n0 (pA a0 a1 (v8,v9)))))] [])) cx [] a0.length 2 vT (.c aHj::aHk n0) (aC0 a0 a1 (flat (cO a0.length) vT) (vT.length) v9):=by
 intro hi
 have hn1:=he.n1
 have htl:=hi.1
 have htl2:=htl.to (k2:=tN (v9+1)) (by omega)
 have e:=Eq.refl (pA a0 a1 (v8,v9));conv at e=>rhs;simp only [pA]
 rw [e]
 refine baT [] [] [0,3,5,6] [5,6] hcx (m:=n0) aFk (aFl) (aBz a0 a1 (flat (cO a0.length) vT) (vT.length) (W (v9+1))) (by kernel_rfl) ⟨by kernel_rfl,by kernel_rfl⟩ ?_
 have z0:(W (v9+1))=(v9+1):=aR (by omega) (by omega)
 rw [z0]
 exact g0 v8 (v9+1) vT tr (by(repeat' apply And.intro)<;>(try simp only [Int.toNat_zero])<;>first | omega | assumption | exact TK.nil | exact nU) (by omega)
theorem aPz (a0:bT)(a1:(List Int×bE)×(List (Int×Int×Bool))×List (List (Int×Int)))(l0:a0.length<=2^63-1)(l1_1_1:a1.1.1.length<=2^63-1)(l1_1_2:a1.1.2.length<=2^63-1)(l1_2_1:a1.2.1.length<=2^63-1)(l1_2_2:a1.2.2.length<=2^63-1)(he:EntOK a0.length a1) {cx:Cx} (hcx:cx.base=5)
 (n0:Nat) (g0:aFn a0 a1 cx n0) (v6:List (List (Int×Int))) (v7:Int) (vT:List (Option iF)) (tr:TabR jY a0.length vT v6):(TK a0.length (tN v7) v6)/\((0<=v7))/\((v7<=(a0.length:Int)))/\(v7 < (a0.length:Int))/\(tN ((a0.length:Int) - v7) < n0+1)->Aw.GoodT Tryz.prog none 9 (bodyPost Tryz.prog Tryz.f26 (RR cx (.s 5 0 (aZ (hY a0 a1) n0 (pB a0 a1 (v6,v7))).length 1) [(.live true true (flat jM (aZ (hY a0 a1) n0 (pB a0 a1 (v6,v7)))))] [])) cx [] a0.length 2 vT (.c aBt::aHl n0) (aC1 a0 a1 (flat (cO a0.length) vT) (vT.length) v7):=by
 intro hi
 have e:=Eq.refl (pB a0 a1 (v6,v7));conv at e=>rhs;simp only [pB]
 rw [e]
 have hn1:=he.n1
 have hvl:=tr.length
 have htl:=hi.1
 have htl0:=htl.1
 have htl1:=htl.next (l:=List.replicate a0.length ((0,0):Int×Int)) (by simp)
 refine GoodT.makeE hT hm (B:=aBt) (by kernel_rfl) 4 (by kernel_rfl) (fun id cap=>vT++[some (id,cap,(flat jY (List.replicate a0.length (0,0))))]) [.Z jY (0,0) [(iv 0),(iv 0)] (a0.length:Int) 16] (fun id cap=>[.p (show(flat (cO a0.length) vT).length=vT.length*1/\vT.length+1<=2 ^ 40/\(vT.length+1)*24<=2 ^ 47 from nX aBs (by omega) (by omega))]) 22 7 vT.length true (flat jY (List.replicate a0.length (0,0))) hcx (by kernel_rfl) ⟨by kernel_rfl,by kernel_rfl⟩ (by kernel_rfl) (by kernel_rfl) (fZ (c:=jY) (fun _=>rfl) _) (by rw [bW gP,List.length_replicate]) (by omega) (fun id cap=>by kernel_rfl) (fun id cap=>⟨by kernel_rfl,by kernel_rfl⟩) (fun id cap=>aPi) (fun id cap=>?_)
 refine gaT [.z 4] [] [0,3,5,6] [5,9] hcx aHj (aHk n0) (aC0 a0 a1 (flat (cO a0.length) vT++[(.v (lX a0.length (id,cap,(flat jY (List.replicate a0.length (0,0))))))]) (vT.length+1) v7) (by kernel_rfl) ⟨by kernel_rfl,by kernel_rfl⟩ ?_
 have tr1:=tr.snoc (id,cap,(flat jY (List.replicate a0.length (0,0)))) (List.replicate a0.length (0,0)) (by simp) rfl
 rw [show(flat (cO a0.length) vT++[(.v (lX a0.length (id,cap,(flat jY (List.replicate a0.length (0,0))))))])=flat (cO a0.length) (vT++[some (id,cap,(flat jY (List.replicate a0.length (0,0))))]) from(aMe (c:=cO a0.length) (l:=vT) (x:=some (id,cap,(flat jY (List.replicate a0.length (0,0)))))).symm]
 rw [show(vT.length+1)=(vT++[some (id,cap,(flat jY (List.replicate a0.length (0,0))))]).length from by simp]
 exact aPy a0 a1 l0 l1_1_1 l1_1_2 l1_2_1 l1_2_2 he hcx n0 g0 (v6++[List.replicate a0.length (0,0)]) v7 (vT++[some (id,cap,(flat jY (List.replicate a0.length (0,0))))]) tr1 (by(repeat' apply And.intro)<;>(try simp only [Int.toNat_zero])<;>first | omega | assumption | exact TK.nil | exact nU)
theorem aMv (a0:bT)(a1:(List Int×bE)×(List (Int×Int×Bool))×List (List (Int×Int)))(l0:a0.length<=2^63-1)(l1_1_1:a1.1.1.length<=2^63-1)(l1_1_2:a1.1.2.length<=2^63-1)(l1_2_1:a1.2.1.length<=2^63-1)(l1_2_2:a1.2.2.length<=2^63-1)(he:EntOK a0.length a1) {cx:Cx} (hcx:cx.base=5)
 (n0:Nat) (g0:vV a0 a1 cx n0)
 (n1:Nat) (g1:zF a0 a1 cx n0 n1)
 (n2:Nat) (g2:aFm a0 a1 cx n0 n1 n2) (v176:List (List (Int×Int))) (v177 v178 v179 v180 v181 v182 v183 v184 v185 v186 v187 v188 v189 v190 v191 v192 v193 v194 v195 v196:Int) (vT:List (Option iF)) (tr:TabR jY a0.length vT v176):(TL a0.length v176 a0.length)/\(yM v178 (a1.2.1.getD (tN v177) dF).2.2 (v179 - v181) (v190 - v189) (v180 - v189))/\((((a1.2.2.getD (tN v177) dF).length:Nat):Int)=bif (a1.2.1.getD (tN v177) dF).2.2 then 1 else(v182 - v181)*(v190 - v189))/\((0<=v177))/\((v177<=(a1.2.1.length:Int)))/\(v177 < (a1.2.1.length:Int))/\(tN ((a1.2.1.length:Int) - v177) < n0+1)/\((0<=v179))/\(((((a1.2.2.getD (tN v177) dF).length:Nat):Int)=bif (a1.2.1.getD (tN v177) dF).2.2 then 1 else(v182 - v181)*(v190 - v189)))/\((v181<=v179))/\((v179<=v182))/\((0<=v181))/\((v182<=a1.1.1.length))/\((0<=v189))/\((v189<=v190))/\((v190<=a1.1.1.length))/\(v179 < v182)/\(tN (v182 - v179) < n1+1)/\((0<=v180))/\((v189<=v180))/\((v180<=v190))/\(v180 < v190)/\(tN (v190 - v180) < n2+1)->Aw.GoodT Tryz.prog none 9 (bodyPost Tryz.prog Tryz.f26 (RR cx (.s 5 0 (aZ (fL a0 a1) n0 (aZ (gG a0 a1) n1 (aZ (hX a0 a1) n2 (jW a0 a1 (v176,v177,v178,v179,v180,v181,v182,v183,v184,v185,v186,v187,v188,v189,v190,v191,v192,v193,v194,v195,v196))))).length 1) [(.live true true (flat jM (aZ (fL a0 a1) n0 (aZ (gG a0 a1) n1 (aZ (hX a0 a1) n2 (jW a0 a1 (v176,v177,v178,v179,v180,v181,v182,v183,v184,v185,v186,v187,v188,v189,v190,v191,v192,v193,v194,v195,v196)))))))] [])) cx [] a0.length 2 vT (.c aC2::aC3 n0 n1 n2) (aBu a0 a1 (flat (cO a0.length) vT) (vT.length) v177 v178 v179 v180 v181 v182 v183 v184 v185 v186 v187 v188 v189 v190 v191 v192 v193 v194 v195 v196):=by
 intro hi
 have hnz:=he.nz (by omega)
 have hsl:(((a1.2.2.getD (tN v177) dF).length:Nat):Int)=bif (a1.2.1.getD (tN v177) dF).2.2 then 1 else(v182 - v181)*(v190 - v189):=by have q:=hi;repeat (first | exact q.1 | replace q:=q.2)
 have hn1:=he.n1
 have hsp:=he.sp
 have hol:=he.ol
 have htl:=hi.1
 have hat:=hi.2.1
 have hsb:=he.sl (tN v177)
 have hao:=aLl hi.2.1 hi.2.2.1 (by omega) (by omega)
 have hw:=aR (n:=v178+1) (by omega) (by omega)
 let t0:List (St Tryz.prog):=[.i v177 (a1.2.1.length),.L eB a1.2.1 v177 2 1]
 cases h0:(!(a1.2.1.getD (tN v177) dF).2.2) with
 | true =>
  try have ha1:yM (W (v178+1)) (a1.2.1.getD (tN v177) dF).2.2 (v179 - v181) (v190 - v189) (v180+1 - v189):=by rw [hw,show v180+1 - v189=v180 - v189+1 from by omega];exact aLm hi.2.1 h0
  have e:=Eq.refl (jW a0 a1 (v176,v177,v178,v179,v180,v181,v182,v183,v184,v185,v186,v187,v188,v189,v190,v191,v192,v193,v194,v195,v196));conv at e=>rhs;simp only [jW,h0,aW]
  rw [e]
  refine baT (t0++[.d h0]) [] [3,5,7,8,9,10,11,12] [5,6,7,8] hcx (m:=n2) zD (zE n0 n1) (vU a0 a1 (flat (cO a0.length) vT) (vT.length) v177 (W (v178+1)) v179 (W (v180+1)) v181 v182 v183 v184 v185 v186 v187 v188 v189 v190 v191 v192 v193 v194 v195 v196) (by kernel_rfl) ⟨by kernel_rfl,by kernel_rfl⟩ ?_
  have z0:(W (v180+1))=(v180+1):=aR (by omega) (by omega)
  rw [z0]
  exact g2 v176 v177 (W (v178+1)) v179 (v180+1) v181 v182 v183 v184 v185 v186 v187 v188 v189 v190 v191 v192 v193 v194 v195 v196 vT tr (by(repeat' apply And.intro)<;>(try simp only [Int.toNat_zero])<;>first | omega | assumption | exact TK.nil | exact nU) (by omega)
 | false =>
  try have ha2:=aPl hi.2.1 h0 (v180+1 - v189)
  have e:=Eq.refl (jW a0 a1 (v176,v177,v178,v179,v180,v181,v182,v183,v184,v185,v186,v187,v188,v189,v190,v191,v192,v193,v194,v195,v196));conv at e=>rhs;simp only [jW,h0,aW]
  rw [e]
  refine baT (t0++[.d h0]) [] [3,5,7,8,9,10,11,12] [5,6,7,8] hcx (m:=n2) zD (zE n0 n1) (vU a0 a1 (flat (cO a0.length) vT) (vT.length) v177 v178 v179 (W (v180+1)) v181 v182 v183 v184 v185 v186 v187 v188 v189 v190 v191 v192 v193 v194 v195 v196) (by kernel_rfl) ⟨by kernel_rfl,by kernel_rfl⟩ ?_
  have z0:(W (v180+1))=(v180+1):=aR (by omega) (by omega)
  rw [z0]
  exact g2 v176 v177 v178 v179 (v180+1) v181 v182 v183 v184 v185 v186 v187 v188 v189 v190 v191 v192 v193 v194 v195 v196 vT tr (by(repeat' apply And.intro)<;>(try simp only [Int.toNat_zero])<;>first | omega | assumption | exact TK.nil | exact nU) (by omega)
theorem aMw (a0:bT)(a1:(List Int×bE)×(List (Int×Int×Bool))×List (List (Int×Int)))(l0:a0.length<=2^63-1)(l1_1_1:a1.1.1.length<=2^63-1)(l1_1_2:a1.1.2.length<=2^63-1)(l1_2_1:a1.2.1.length<=2^63-1)(l1_2_2:a1.2.2.length<=2^63-1)(he:EntOK a0.length a1) {cx:Cx} (hcx:cx.base=5)
 (n0:Nat) (g0:vV a0 a1 cx n0)
 (n1:Nat) (g1:zF a0 a1 cx n0 n1)
 (n2:Nat) (g2:aFm a0 a1 cx n0 n1 n2) (v155:List (List (Int×Int))) (v156 v157 v158 v159 v160 v161 v162 v163 v164 v165 v166 v167 v168 v169 v170 v171 v172 v173 v174 v175:Int) (vT:List (Option iF)) (tr:TabR jY a0.length vT v155):(TL a0.length v155 a0.length)/\(yM v157 (a1.2.1.getD (tN v156) dF).2.2 (v158 - v160) (v169 - v168) (v159 - v168))/\((((a1.2.2.getD (tN v156) dF).length:Nat):Int)=bif (a1.2.1.getD (tN v156) dF).2.2 then 1 else(v161 - v160)*(v169 - v168))/\((0<=v156))/\((v156<=(a1.2.1.length:Int)))/\(v156 < (a1.2.1.length:Int))/\(tN ((a1.2.1.length:Int) - v156) < n0+1)/\((0<=v158))/\(((((a1.2.2.getD (tN v156) dF).length:Nat):Int)=bif (a1.2.1.getD (tN v156) dF).2.2 then 1 else(v161 - v160)*(v169 - v168)))/\((v160<=v158))/\((v158<=v161))/\((0<=v160))/\((v161<=a1.1.1.length))/\((0<=v168))/\((v168<=v169))/\((v169<=a1.1.1.length))/\(v158 < v161)/\(tN (v161 - v158) < n1+1)/\((0<=v159))/\((v168<=v159))/\((v159<=v169))/\(v159 < v169)/\(tN (v169 - v159) < n2+1)->Aw.GoodT Tryz.prog none 9 (bodyPost Tryz.prog Tryz.f26 (RR cx (.s 5 0 (aZ (fL a0 a1) n0 (aZ (gG a0 a1) n1 (aZ (hX a0 a1) n2 (mO a0 a1 (v155,v156,v157,v158,v159,v160,v161,v162,v163,v164,v165,v166,v167,v168,v169,v170,v171,v172,v173,v174,v175))))).length 1) [(.live true true (flat jM (aZ (fL a0 a1) n0 (aZ (gG a0 a1) n1 (aZ (hX a0 a1) n2 (mO a0 a1 (v155,v156,v157,v158,v159,v160,v161,v162,v163,v164,v165,v166,v167,v168,v169,v170,v171,v172,v173,v174,v175)))))))] [])) cx [] a0.length 2 vT (.c xM::aC4 n0 n1 n2) (aBv a0 a1 (flat (cO a0.length) vT) (vT.length) v156 v157 v158 v159 v160 v161 v162 v163 v164 v165 v166 v167 v168 v169 v170 v171 v172 v173 v174 v175):=by
 intro hi
 have e:=Eq.refl (mO a0 a1 (v155,v156,v157,v158,v159,v160,v161,v162,v163,v164,v165,v166,v167,v168,v169,v170,v171,v172,v173,v174,v175));conv at e=>rhs;simp only [mO]
 rw [e]
 have hn1:=he.n1
 have hnz:=he.nz (by omega)
 have hvl:=tr.length
 have htl:=hi.1
 have htl0:=htl.1
 have hsp:=he.sp
 have hat1:=hi.2.1
 have hsl:=hi.2.2.1
 have hr1:=he.ord.atD (by omega) (tN v158)
 have hr2:=he.ord.atD (by omega) (tN v159)
 have hxl:=htl.2 (tN (a1.1.1.getD (tN v158) dF)) (by omega)
 obtain⟨xr,hxr,hxc⟩:=tr.get (tN (a1.1.1.getD (tN v158) dF)) (by omega) hxl (by omega)
 have hxi:0<=(a1.1.1.getD (tN v158) dF)/\(a1.1.1.getD (tN v158) dF) < (vT.length:Int):=by omega
 have hat:=aLl hi.2.1 hi.2.2.1 (by omega) (by omega)
 have hs:(splice xr.2.2 (0+tN (a1.1.1.getD (tN v159) dF)*2) (k2 ((a1.2.2.getD (tN v156) dF).getD (tN v157) dF)))=flat jY ((v155.getD (tN (a1.1.1.getD (tN v158) dF)) []).set (tN (a1.1.1.getD (tN v159) dF)) ((a1.2.2.getD (tN v156) dF).getD (tN v157) dF)):=by rw [hxc];exact bB gP (by omega) (o:=0) (d:=dF) (Nat.le_refl 2) (qM (gP _))
 refine GoodT.putE hT hm (B:=xM) (by kernel_rfl) 23 (by kernel_rfl) [.i v158 (a1.1.1.length),.L aF a1.1.1 v158 0 1,.i (a1.1.1.getD (tN v158) dF) (vT.length),.l [(.v (lX a0.length xr))] (aPk hxi hxr),.i v159 (a1.1.1.length),.L aF a1.1.1 v159 0 1,.i v156 (a1.2.2.length),.L jK a1.2.2 v156 0 1,.p (fZ (c:=jY) (fun _=>rfl) (a1.2.2.getD (tN v156) dF)),.i v157 ((a1.2.2.getD (tN v156) dF).length),.L gP (a1.2.2.getD (tN v156) dF) v157 0 2] [.i (a1.1.1.getD (tN v159) dF) a0.length (by omega),.p (show 0+tN (a1.1.1.getD (tN v159) dF)*2+2<=xr.2.2.length from by rw [hxc,bW gP,hxl];omega)] [.kill 9] 78 (tN (a1.1.1.getD (tN v158) dF)) xr (splice xr.2.2 (0+tN (a1.1.1.getD (tN v159) dF)*2) (k2 ((a1.2.2.getD (tN v156) dF).getD (tN v157) dF))) hcx (by kernel_rfl) (by kernel_rfl) (by kernel_rfl) ⟨by kernel_rfl,by kernel_rfl⟩ (by kernel_rfl) hxr (by kernel_rfl) ⟨by kernel_rfl,by kernel_rfl⟩ (by kernel_rfl) (by rw [hs];exact fZ (c:=jY) (fun _=>rfl) _) (by rw [hs,bW gP,List.length_set,hxl]) ?_
 refine gaT [.z 18] [] [3,5,7,8,9,10,11,12] [5,6,7,8] hcx aC2 (aC3 n0 n1 n2) (aBu a0 a1 (flat (cO a0.length) vT) (vT.length) v156 v157 v158 v159 v160 v161 v162 v163 v164 v165 v166 v167 v168 v169 v170 v171 v172 v173 v174 v175) (by kernel_rfl) ⟨by kernel_rfl,by kernel_rfl⟩ ?_
 have tr1:=tr.set (tN (a1.1.1.getD (tN v158) dF)) (xr.1,xr.2.1,(splice xr.2.2 (0+tN (a1.1.1.getD (tN v159) dF)*2) (k2 ((a1.2.2.getD (tN v156) dF).getD (tN v157) dF)))) ((v155.getD (tN (a1.1.1.getD (tN v158) dF)) []).set (tN (a1.1.1.getD (tN v159) dF)) ((a1.2.2.getD (tN v156) dF).getD (tN v157) dF)) (by rw [List.length_set,hxl]) hs
 have htl1:=htl.set (l:=((v155.getD (tN (a1.1.1.getD (tN v158) dF)) []).set (tN (a1.1.1.getD (tN v159) dF)) ((a1.2.2.getD (tN v156) dF).getD (tN v157) dF))) (by rw [List.length_set,hxl]) (tN (a1.1.1.getD (tN v158) dF))
 rw [←yL (nn:=a0.length) hxr (splice xr.2.2 (0+tN (a1.1.1.getD (tN v159) dF)*2) (k2 ((a1.2.2.getD (tN v156) dF).getD (tN v157) dF)))]
 rw [show vT.length=(vT.set (tN (a1.1.1.getD (tN v158) dF)) (some (xr.1,xr.2.1,(splice xr.2.2 (0+tN (a1.1.1.getD (tN v159) dF)*2) (k2 ((a1.2.2.getD (tN v156) dF).getD (tN v157) dF)))))).length from by simp]
 exact aMv a0 a1 l0 l1_1_1 l1_1_2 l1_2_1 l1_2_2 he hcx n0 g0 n1 g1 n2 g2 (v155.set (tN (a1.1.1.getD (tN v158) dF)) ((v155.getD (tN (a1.1.1.getD (tN v158) dF)) []).set (tN (a1.1.1.getD (tN v159) dF)) ((a1.2.2.getD (tN v156) dF).getD (tN v157) dF))) v156 v157 v158 v159 v160 v161 v162 v163 v164 v165 v166 v167 v168 v169 v170 v171 v172 v173 v174 v175 (vT.set (tN (a1.1.1.getD (tN v158) dF)) (some (xr.1,xr.2.1,(splice xr.2.2 (0+tN (a1.1.1.getD (tN v159) dF)*2) (k2 ((a1.2.2.getD (tN v156) dF).getD (tN v157) dF)))))) tr1 (by(repeat' apply And.intro)<;>(try simp only [Int.toNat_zero])<;>first | omega | assumption | exact TK.nil | exact nU)
theorem aRv (a0:bT)(a1:(List Int×bE)×(List (Int×Int×Bool))×List (List (Int×Int)))(l0:a0.length<=2^63-1)(l1_1_1:a1.1.1.length<=2^63-1)(l1_1_2:a1.1.2.length<=2^63-1)(l1_2_1:a1.2.1.length<=2^63-1)(l1_2_2:a1.2.2.length<=2^63-1)(he:EntOK a0.length a1) {cx:Cx} (hcx:cx.base=5)
 (n0:Nat) (g0:vV a0 a1 cx n0)
 (n1:Nat) (g1:zF a0 a1 cx n0 n1):∀n:Nat,aFm a0 a1 cx n0 n1 n:=by
 intro n
 induction n with
 | zero=>intro v134 v135 v136 v137 v138 v139 v140 v141 v142 v143 v144 v145 v146 v147 v148 v149 v150 v151 v152 v153 v154 vT tr hi hn;exact absurd hn (eL _)
 | succ n ih =>
  intro v134 v135 v136 v137 v138 v139 v140 v141 v142 v143 v144 v145 v146 v147 v148 v149 v150 v151 v152 v153 v154 vT tr hi hn
  refine GoodT.round ?_
  have hnz:=he.nz (by omega)
  have hsl:(((a1.2.2.getD (tN v135) dF).length:Nat):Int)=bif (a1.2.1.getD (tN v135) dF).2.2 then 1 else(v140 - v139)*(v148 - v147):=by have q:=hi;repeat (first | exact q.1 | replace q:=q.2)
  have hn1:=he.n1
  have hsp:=he.sp
  have hol:=he.ol
  have htl:=hi.2.1
  have hat:=hi.2.2.1
  cases h0:(decide ((v138:Int) < v148)) with
  | true =>
   have q0:=cN h0
   have e:=Eq.refl (hX a0 a1 (v134,v135,v136,v137,v138,v139,v140,v141,v142,v143,v144,v145,v146,v147,v148,v149,v150,v151,v152,v153,v154));conv at e=>rhs;simp only [hX,h0,aW]
   rw [aK,e]
   refine gaT [.d h0,.z 17] [] [3,5,7,8,9,10,11,12] [5,6,7,8] hcx xM (aC4 n0 n1 n) (aBv a0 a1 (flat (cO a0.length) vT) (vT.length) v135 v136 v137 v138 v139 v140 v141 v142 v143 v144 v145 v146 v147 v148 v149 v150 v151 v152 v153 v154) (by kernel_rfl) ⟨by kernel_rfl,by kernel_rfl⟩ ?_
   exact aMw a0 a1 l0 l1_1_1 l1_1_2 l1_2_1 l1_2_2 he hcx n0 g0 n1 g1 n ih v134 v135 v136 v137 v138 v139 v140 v141 v142 v143 v144 v145 v146 v147 v148 v149 v150 v151 v152 v153 v154 vT tr (by(repeat' apply And.intro)<;>(try simp only [Int.toNat_zero])<;>first | omega | assumption | exact TK.nil | exact nU)
  | false =>
   have q0:=cY h0
   try have har:yM v136 (a1.2.1.getD (tN v135) dF).2.2 (v137+1 - v139) (v148 - v147) 0:=by have _:=cY h0;rw [show v137+1 - v139=v137 - v139+1 from by omega];exact aPm hi.2.2.1 (by omega)
   have e:=Eq.refl (hX a0 a1 (v134,v135,v136,v137,v138,v139,v140,v141,v142,v143,v144,v145,v146,v147,v148,v149,v150,v151,v152,v153,v154));conv at e=>rhs;simp only [hX,h0,aW]
   rw [aK,e]
   refine baT [.d h0] [] [3,5,7,8,9,10,11] [5,6,7,8] hcx (m:=n1) aFg (aFh n0) (aBw a0 a1 (flat (cO a0.length) vT) (vT.length) v135 v136 (W (v137+1)) v139 v140 v141 v142 v143 v144 v145 v146 v147 v148 v149 v150 v151 v152 v153 v154) (by kernel_rfl) ⟨by kernel_rfl,by kernel_rfl⟩ ?_
   have z0:(W (v137+1))=(v137+1):=aR (by omega) (by omega)
   rw [z0]
   exact g1 v134 v135 v136 (v137+1) v139 v140 v141 v142 v143 v144 v145 v146 v147 v148 v149 v150 v151 v152 v153 v154 vT tr (by(repeat' apply And.intro)<;>(try simp only [Int.toNat_zero])<;>first | omega | assumption | exact TK.nil | exact nU) (by omega)
theorem aRw (a0:bT)(a1:(List Int×bE)×(List (Int×Int×Bool))×List (List (Int×Int)))(l0:a0.length<=2^63-1)(l1_1_1:a1.1.1.length<=2^63-1)(l1_1_2:a1.1.2.length<=2^63-1)(l1_2_1:a1.2.1.length<=2^63-1)(l1_2_2:a1.2.2.length<=2^63-1)(he:EntOK a0.length a1) {cx:Cx} (hcx:cx.base=5)
 (n0:Nat) (g0:vV a0 a1 cx n0):∀n:Nat,zF a0 a1 cx n0 n:=by
 intro n
 induction n with
 | zero=>intro v114 v115 v116 v117 v118 v119 v120 v121 v122 v123 v124 v125 v126 v127 v128 v129 v130 v131 v132 v133 vT tr hi hn;exact absurd hn (eL _)
 | succ n ih =>
  intro v114 v115 v116 v117 v118 v119 v120 v121 v122 v123 v124 v125 v126 v127 v128 v129 v130 v131 v132 v133 vT tr hi hn
  refine GoodT.round ?_
  have hnz:=he.nz (by omega)
  have hsl:(((a1.2.2.getD (tN v115) dF).length:Nat):Int)=bif (a1.2.1.getD (tN v115) dF).2.2 then 1 else(v119 - v118)*(v127 - v126):=by have q:=hi;repeat (first | exact q.1 | replace q:=q.2)
  have hn1:=he.n1
  have hsp:=he.sp
  have hol:=he.ol
  have htl:=hi.2.1
  have hat:yM v116 (a1.2.1.getD (tN v115) dF).2.2 (v117 - v118) (v127 - v126) (v126 - v126):=by rw [Int.sub_self];exact hi.2.2.1
  cases h0:(decide ((v117:Int) < v119)) with
  | true =>
   have q0:=cN h0
   have e:=Eq.refl (gG a0 a1 (v114,v115,v116,v117,v118,v119,v120,v121,v122,v123,v124,v125,v126,v127,v128,v129,v130,v131,v132,v133));conv at e=>rhs;simp only [gG,h0,aW]
   rw [aK,e]
   refine enT [.d h0] [] [3,5,7,8,9,10,11,12] [5,6,7,8] hcx zD (zE n0 n) (vU a0 a1 (flat (cO a0.length) vT) (vT.length) v115 v116 v117 v126 v118 v119 v120 v121 v122 v123 v124 v125 v126 v127 v128 v129 v130 v131 v132 v133) (tN (v127 - v126)+1) (by kernel_rfl) ⟨by kernel_rfl,by kernel_rfl⟩ ?_
   exact aRv a0 a1 l0 l1_1_1 l1_1_2 l1_2_1 l1_2_2 he hcx n0 g0 n ih (tN (v127 - v126)+1) v114 v115 v116 v117 v126 v118 v119 v120 v121 v122 v123 v124 v125 v126 v127 v128 v129 v130 v131 v132 v133 vT tr (by(repeat' apply And.intro)<;>(try simp only [Int.toNat_zero])<;>first | omega | assumption | exact TK.nil | exact nU) (by omega)
  | false =>
   have q0:=cY h0
   have e:=Eq.refl (gG a0 a1 (v114,v115,v116,v117,v118,v119,v120,v121,v122,v123,v124,v125,v126,v127,v128,v129,v130,v131,v132,v133));conv at e=>rhs;simp only [gG,h0,aW]
   rw [aK,e]
   refine baT [.d h0] [] [3,5,7] [5,6] hcx (m:=n0) aFi (aFj) (aBy a0 a1 (flat (cO a0.length) vT) (vT.length) (W (v115+1))) (by kernel_rfl) ⟨by kernel_rfl,by kernel_rfl⟩ ?_
   have z0:(W (v115+1))=(v115+1):=aR (by omega) (by omega)
   rw [z0]
   exact g0 v114 (v115+1) vT tr (by(repeat' apply And.intro)<;>(try simp only [Int.toNat_zero])<;>first | omega | assumption | exact TK.nil | exact nU) (by omega)
theorem aMx (a0:bT)(a1:(List Int×bE)×(List (Int×Int×Bool))×List (List (Int×Int)))(l0:a0.length<=2^63-1)(l1_1_1:a1.1.1.length<=2^63-1)(l1_1_2:a1.1.2.length<=2^63-1)(l1_2_1:a1.2.1.length<=2^63-1)(l1_2_2:a1.2.2.length<=2^63-1)(he:EntOK a0.length a1) {cx:Cx} (hcx:cx.base=5)(v197:List (List (Int×Int)))(vT:List (Option iF))(tr:TabR jY a0.length vT v197):TL a0.length v197 a0.length->Aw.GoodT Tryz.prog none 9 (bodyPost Tryz.prog Tryz.f26 (RR cx (.s 5 0 (pC a0 a1 v197).length 1) [(.live true true (flat jM (pC a0 a1 v197)))] [])) cx [] a0.length 2 vT (.c aC5::aC6) (aBx a0 a1 (flat (cO a0.length) vT) (vT.length)):=by
 intro hi
 have e:=Eq.refl (pC a0 a1 v197);conv at e=>rhs;simp only [pC]
 rw [e]
 have hln:=tr.length
 obtain⟨rws,hrw,hfl⟩:=tr.rows' (cT:=jM) (es:=2) (fun _=>rfl) hi.1 (fun i h=>hi.2 i (by have:=hi.1;omega))
 subst hrw
 rw [hln,aFd]
 refine GoodT.freeze (rows:=rws) 5 (by kernel_rfl) ?_
 rw [hfl]
 exact rt [] [] [5] hcx (by kernel_rfl)
theorem aRx (a0:bT)(a1:(List Int×bE)×(List (Int×Int×Bool))×List (List (Int×Int)))(l0:a0.length<=2^63-1)(l1_1_1:a1.1.1.length<=2^63-1)(l1_1_2:a1.1.2.length<=2^63-1)(l1_2_1:a1.2.1.length<=2^63-1)(l1_2_2:a1.2.2.length<=2^63-1)(he:EntOK a0.length a1) {cx:Cx} (hcx:cx.base=5):∀n:Nat,vV a0 a1 cx n:=by
 intro n
 induction n with
 | zero=>intro v12 v13 vT tr hi hn;exact absurd hn (eL _)
 | succ n ih =>
  intro v12 v13 vT tr hi hn
  refine GoodT.round ?_
  have hn1:=he.n1
  have hsp:=he.sp
  have hol:=he.ol
  have htl:=hi.2.1
  cases h0:(decide ((v13:Int) < (a1.2.1.length:Int))) with
  | true =>
   have q0:=cN h0
   try have hb:=he.blk v13 (by omega) (by first | exact cN h0 | omega)
   try have hb1:=(fun _=>hb.1) h0
   try have hb2:=(fun _=>hb.2.1) h0
   try have hb3:=(fun _=>hb.2.2.1) h0
   try have hb4:=(fun _=>hb.2.2.2.1) h0
   try have hb5:=(fun _=>hb.2.2.2.2) h0
   have e:=Eq.refl (fL a0 a1 (v12,v13));conv at e=>rhs;simp only [fL,h0,aW]
   rw [aK,e]
   refine enT [.d h0,.i v13 (a1.2.1.length),.L eB a1.2.1 v13 0 1,.i ((a1.2.1.getD (tN v13) dF).1) (a1.1.2.length),.L bU a1.1.2 (a1.2.1.getD (tN v13) dF).1 0 8,.i v13 (a1.2.1.length),.L eB a1.2.1 v13 1 1,.i ((a1.2.1.getD (tN v13) dF).2.1) (a1.1.2.length),.L bU a1.1.2 (a1.2.1.getD (tN v13) dF).2.1 0 8] [] [3,5,7,8,9,10,11] [5,6,7,8] hcx aFg (aFh n) (aBw a0 a1 (flat (cO a0.length) vT) (vT.length) v13 0 ((a1.1.2.getD (tN (a1.2.1.getD (tN v13) dF).1) dF).1) ((a1.1.2.getD (tN (a1.2.1.getD (tN v13) dF).1) dF).1) ((a1.1.2.getD (tN (a1.2.1.getD (tN v13) dF).1) dF).2.1) ((a1.1.2.getD (tN (a1.2.1.getD (tN v13) dF).1) dF).2.2.1) ((a1.1.2.getD (tN (a1.2.1.getD (tN v13) dF).1) dF).2.2.2.1) ((a1.1.2.getD (tN (a1.2.1.getD (tN v13) dF).1) dF).2.2.2.2.1.1) ((a1.1.2.getD (tN (a1.2.1.getD (tN v13) dF).1) dF).2.2.2.2.1.2.1) ((a1.1.2.getD (tN (a1.2.1.getD (tN v13) dF).1) dF).2.2.2.2.1.2.2) ((a1.1.2.getD (tN (a1.2.1.getD (tN v13) dF).1) dF).2.2.2.2.2) ((a1.1.2.getD (tN (a1.2.1.getD (tN v13) dF).2.1) dF).1) ((a1.1.2.getD (tN (a1.2.1.getD (tN v13) dF).2.1) dF).2.1) ((a1.1.2.getD (tN (a1.2.1.getD (tN v13) dF).2.1) dF).2.2.1) ((a1.1.2.getD (tN (a1.2.1.getD (tN v13) dF).2.1) dF).2.2.2.1) ((a1.1.2.getD (tN (a1.2.1.getD (tN v13) dF).2.1) dF).2.2.2.2.1.1) ((a1.1.2.getD (tN (a1.2.1.getD (tN v13) dF).2.1) dF).2.2.2.2.1.2.1) ((a1.1.2.getD (tN (a1.2.1.getD (tN v13) dF).2.1) dF).2.2.2.2.1.2.2) ((a1.1.2.getD (tN (a1.2.1.getD (tN v13) dF).2.1) dF).2.2.2.2.2)) (tN ((a1.1.2.getD (tN (a1.2.1.getD (tN v13) dF).1) dF).2.1 - (a1.1.2.getD (tN (a1.2.1.getD (tN v13) dF).1) dF).1)+1) (by kernel_rfl) ⟨by kernel_rfl,by kernel_rfl⟩ ?_
   exact aRw a0 a1 l0 l1_1_1 l1_1_2 l1_2_1 l1_2_2 he hcx n ih (tN ((a1.1.2.getD (tN (a1.2.1.getD (tN v13) dF).1) dF).2.1 - (a1.1.2.getD (tN (a1.2.1.getD (tN v13) dF).1) dF).1)+1) v12 v13 0 ((a1.1.2.getD (tN (a1.2.1.getD (tN v13) dF).1) dF).1) ((a1.1.2.getD (tN (a1.2.1.getD (tN v13) dF).1) dF).1) ((a1.1.2.getD (tN (a1.2.1.getD (tN v13) dF).1) dF).2.1) ((a1.1.2.getD (tN (a1.2.1.getD (tN v13) dF).1) dF).2.2.1) ((a1.1.2.getD (tN (a1.2.1.getD (tN v13) dF).1) dF).2.2.2.1) ((a1.1.2.getD (tN (a1.2.1.getD (tN v13) dF).1) dF).2.2.2.2.1.1) ((a1.1.2.getD (tN (a1.2.1.getD (tN v13) dF).1) dF).2.2.2.2.1.2.1) ((a1.1.2.getD (tN (a1.2.1.getD (tN v13) dF).1) dF).2.2.2.2.1.2.2) ((a1.1.2.getD (tN (a1.2.1.getD (tN v13) dF).1) dF).2.2.2.2.2) ((a1.1.2.getD (tN (a1.2.1.getD (tN v13) dF).2.1) dF).1) ((a1.1.2.getD (tN (a1.2.1.getD (tN v13) dF).2.1) dF).2.1) ((a1.1.2.getD (tN (a1.2.1.getD (tN v13) dF).2.1) dF).2.2.1) ((a1.1.2.getD (tN (a1.2.1.getD (tN v13) dF).2.1) dF).2.2.2.1) ((a1.1.2.getD (tN (a1.2.1.getD (tN v13) dF).2.1) dF).2.2.2.2.1.1) ((a1.1.2.getD (tN (a1.2.1.getD (tN v13) dF).2.1) dF).2.2.2.2.1.2.1) ((a1.1.2.getD (tN (a1.2.1.getD (tN v13) dF).2.1) dF).2.2.2.2.1.2.2) ((a1.1.2.getD (tN (a1.2.1.getD (tN v13) dF).2.1) dF).2.2.2.2.2) vT tr (by(repeat' apply And.intro)<;>(try simp only [Int.toNat_zero])<;>first | omega | assumption | exact TK.nil | exact nU) (by omega)
  | false =>
   have q0:=cY h0
   have e:=Eq.refl (fL a0 a1 (v12,v13));conv at e=>rhs;simp only [fL,h0,aW]
   rw [aK,e]
   refine gaT [.d h0,.z 20] [] [5] [6] hcx aC5 (aC6) (aBx a0 a1 (flat (cO a0.length) vT) (vT.length)) (by kernel_rfl) ⟨by kernel_rfl,by kernel_rfl⟩ ?_
   exact aMx a0 a1 l0 l1_1_1 l1_1_2 l1_2_1 l1_2_2 he hcx v12 vT tr (by(repeat' apply And.intro)<;>(try simp only [Int.toNat_zero])<;>first | omega | assumption | exact TK.nil | exact nU)
theorem aRy (a0:bT)(a1:(List Int×bE)×(List (Int×Int×Bool))×List (List (Int×Int)))(l0:a0.length<=2^63-1)(l1_1_1:a1.1.1.length<=2^63-1)(l1_1_2:a1.1.2.length<=2^63-1)(l1_2_1:a1.2.1.length<=2^63-1)(l1_2_2:a1.2.2.length<=2^63-1)(he:EntOK a0.length a1) {cx:Cx} (hcx:cx.base=5):∀n:Nat,aFn a0 a1 cx n:=by
 intro n
 induction n with
 | zero=>intro v4 v5 vT tr hi hn;exact absurd hn (eL _)
 | succ n ih =>
  intro v4 v5 vT tr hi hn
  refine GoodT.round ?_
  have hn1:=he.n1
  have hsp:=he.sp
  have htl:=hi.2.1
  cases h0:(decide ((v5:Int) < (a0.length:Int))) with
  | true =>
   have q0:=cN h0
   have e:=Eq.refl (hY a0 a1 (v4,v5));conv at e=>rhs;simp only [hY,h0,aW]
   rw [aK,e]
   refine gaT [.d h0,.z 5] [] [0,3,5,6] [5,6] hcx aBt (aHl n) (aC1 a0 a1 (flat (cO a0.length) vT) (vT.length) v5) (by kernel_rfl) ⟨by kernel_rfl,by kernel_rfl⟩ ?_
   exact aPz a0 a1 l0 l1_1_1 l1_1_2 l1_2_1 l1_2_2 he hcx n ih v4 v5 vT tr (by(repeat' apply And.intro)<;>(try simp only [Int.toNat_zero])<;>first | omega | assumption | exact TK.nil | exact nU)
  | false =>
   have q0:=cY h0
   try have htl2:=htl.tl (by have _:=cY h0;omega)
   have e:=Eq.refl (hY a0 a1 (v4,v5));conv at e=>rhs;simp only [hY,h0,aW]
   rw [aK,e]
   refine enT [.d h0] [] [3,5,7] [5,6] hcx aFi (aFj) (aBy a0 a1 (flat (cO a0.length) vT) (vT.length) 0) (tN ((a1.2.1.length:Int) - 0)+1) (by kernel_rfl) ⟨by kernel_rfl,by kernel_rfl⟩ ?_
   exact aRx a0 a1 l0 l1_1_1 l1_1_2 l1_2_1 l1_2_2 he hcx (tN ((a1.2.1.length:Int) - 0)+1) v4 0 vT tr (by(repeat' apply And.intro)<;>(try simp only [Int.toNat_zero])<;>first | omega | assumption | exact TK.nil | exact nU) (by omega)
def kO (a0:bT)(a1:(List Int×bE)×(List (Int×Int×Bool))×List (List (Int×Int))):List (List (Int×Int)) :=
 (aH (hY a0 a1) (tN ((a0.length:Int) - 0)+1) (([]:List (List (Int×Int))),0))
theorem aV5 (a0:bT)(a1:(List Int×bE)×(List (Int×Int×Bool))×List (List (Int×Int)))(l0:a0.length<=2^63-1)(l1_1_1:a1.1.1.length<=2^63-1)(l1_1_2:a1.1.2.length<=2^63-1)(l1_2_1:a1.2.1.length<=2^63-1)(l1_2_2:a1.2.2.length<=2^63-1)(he:EntOK a0.length a1):Con Tryz.prog 26 [(.s 0 0 a0.length 10),(.a [(.s 1 0 a1.1.1.length 1),(.s 2 0 a1.1.2.length 8),(.s 3 0 a1.2.1.length 3),(.s 4 0 a1.2.2.length 1)])] [(.live false true (flat dI a0)),(.live false true (flat c3 a1.1.1)),(.live false true (flat bZ a1.1.2)),(.live false true (flat eS a1.2.1)),(.live false true (flat jM a1.2.2))] (.s 5 0 (kO a0 a1).length 1) [(.live true true (flat jM (kO a0 a1)))]:=by
 refine bA Tryz.func26 (by kernel_rfl) fun cx hcx=>?_
 have hn1:=he.n1
 have hsp:=he.sp
 have hol:=he.ol
 have e:=Eq.refl (kO a0 a1);conv at e=>rhs;simp only [kO]
 rw [e]
 refine en [] [.slot 5 1] [0,3,5,6] [5,6] hcx aFk (aFl) (aBz a0 a1 (flat (cO a0.length) []) 0 0) (tN ((a0.length:Int) - 0)+1) (by kernel_rfl) ?_
 refine GoodT.none (nn:=a0.length) (es:=2) (rows:=[]) (fun i x h=>by simp at h) ?_
 exact aRy a0 a1 l0 l1_1_1 l1_1_2 l1_2_1 l1_2_2 he hcx (tN ((a0.length:Int) - 0)+1) ([]:List (List (Int×Int))) 0 ([]) trivial (by(repeat' apply And.intro)<;>(try simp only [Int.toNat_zero])<;>first | omega | assumption | exact TK.nil | exact nU) (by omega)
noncomputable def xN:Code:=(aN [1,1,0,1] [] (aL Tryz.f32) []).1
noncomputable def xO:List K:=(aN [1,1,0,1] [] (aL Tryz.f32) []).2
def uL (a0:List (Int×Int×Bool))(a1:List (Int×Int×Bool))(v1:Int):LS:=⟨gO 26 [(0,(.s 0 0 a0.length 3)),(1,(.s 1 0 a1.length 3)),(12,(iv (a0.length:Int))),(13,(iv v1))],[(.live false true (flat eS a0)),(.live false true (flat eS a1))]⟩
def jX (a0:List (Int×Int×Bool))(a1:List (Int×Int×Bool)):Int->(Int)⊕(Bool)
 | v1 =>
  (bif (decide ((v1:Int) < (a0.length:Int))) then
   (bif (!((((a0.getD (tN v1) dF).1:Int) == (a1.getD (tN v1) dF).1)&&((((a0.getD (tN v1) dF).2.1:Int) == (a1.getD (tN v1) dF).2.1)&&(((a0.getD (tN v1) dF).2.2 == (a1.getD (tN v1) dF).2.2)&&true)))) then
    (.inr false)
   else
    (.inl (v1+1)))
  else
   (.inr true))
theorem aMy (a0:List (Int×Int×Bool))(a1:List (Int×Int×Bool))(l0:a0.length<=2^63-1)(l1:a1.length<=2^63-1) {cx:Cx} (hcx:cx.base=2):∀(n:Nat) (v1:Int),(0<=v1)/\(a0.length=a1.length)->tN ((a0.length:Int) - v1) < n->Aw.Good Tryz.prog none 9 (bodyPost Tryz.prog Tryz.f32 (RR cx (.v (.bool (aH (jX a0 a1) n v1))) [] [])) cx [] (.l xN n::xO) (uL a0 a1 v1):=by
 intro n
 induction n with
 | zero=>intro v1 hi hn;exact absurd hn (eL _)
 | succ n ih =>
  intro v1 hi hn
  refine aS ?_
  cases h0:(decide ((v1:Int) < (a0.length:Int))) with
  | true =>
   have q0:=cN h0
   let t1:List (St Tryz.prog):=[.d h0,.i v1 (a0.length),.L eB a0 v1 0 3,.i v1 (a1.length),.L eB a1 v1 0 3]
   cases h1:(!((((a0.getD (tN v1) dF).1:Int) == (a1.getD (tN v1) dF).1)&&((((a0.getD (tN v1) dF).2.1:Int) == (a1.getD (tN v1) dF).2.1)&&(((a0.getD (tN v1) dF).2.2 == (a1.getD (tN v1) dF).2.2)&&true)))) with
   | true =>
    have e:=Eq.refl (jX a0 a1 v1);conv at e=>rhs;simp only [jX,h0,h1,aW]
    rw [aK,e]
    exact rt (t1++[.d h1]) [] [] hcx (by kernel_rfl)
   | false =>
    have e:=Eq.refl (jX a0 a1 v1);conv at e=>rhs;simp only [jX,h0,h1,aW]
    rw [aI e]
    refine ba (t1++[.d h1]) [] [0,1,12,13] [] hcx (m:=n) xN (xO) (uL a0 a1 (W (v1+1))) (by kernel_rfl) ?_
    have z0:(W (v1+1))=(v1+1):=aR (by omega) (by omega)
    rw [z0]
    exact ih (v1+1) (by refine⟨?_,?_⟩<;>(try simp only [Ls])<;>first | omega | assumption | simp) (by omega)
  | false =>
   have q0:=cY h0
   have e:=Eq.refl (jX a0 a1 v1);conv at e=>rhs;simp only [jX,h0,aW]
   rw [aK,e]
   exact rt [.d h0] [] [] hcx (by kernel_rfl)
def lK (a0:List (Int×Int×Bool))(a1:List (Int×Int×Bool)):Bool :=
 (bif (((a0.length:Int):Int) != (a1.length:Int)) then
  false
 else
  (aH (jX a0 a1) (tN ((a0.length:Int) - 0)+1) 0))
theorem aRz (a0:List (Int×Int×Bool))(a1:List (Int×Int×Bool))(l0:a0.length<=2^63-1)(l1:a1.length<=2^63-1):Con Tryz.prog 32 [(.s 0 0 a0.length 3),(.s 1 0 a1.length 3)] [(.live false true (flat eS a0)),(.live false true (flat eS a1))] (.v (.bool (lK a0 a1))) []:=by
 refine bA Tryz.func32 (by kernel_rfl) fun cx hcx=>?_
 cases h0:(((a0.length:Int):Int) != (a1.length:Int)) with
 | true =>
  have q0:=bne_iff_ne.1 h0
  have e:=Eq.refl (lK a0 a1);conv at e=>rhs;simp only [lK,h0,aW]
  rw [e]
  exact rt [.d h0] [] [] hcx (by kernel_rfl)
 | false =>
  have q0:=bne_eq_false_iff_eq.1 h0
  have e:=Eq.refl (lK a0 a1);conv at e=>rhs;simp only [lK,h0,aW]
  rw [e]
  refine en [.d h0] [] [0,1,12,13] [] hcx xN (xO) (uL a0 a1 0) (tN ((a0.length:Int) - 0)+1) (by kernel_rfl) ?_
  exact aMy a0 a1 l0 l1 hcx (tN ((a0.length:Int) - 0)+1) 0 (by refine⟨?_,?_⟩<;>(try simp only [Ls])<;>first | omega | assumption | simp) (by omega)
def F34 (a0:List Int×bE)(a1:Int×Int×Bool):Int :=
 (bif a1.2.2 then
  1
 else
  (W ((W ((a0.2.getD (tN a1.1) dF).2.1 - (a0.2.getD (tN a1.1) dF).1))*(W ((a0.2.getD (tN a1.2.1) dF).2.1 - (a0.2.getD (tN a1.2.1) dF).1)))))
theorem C34 (a0:List Int×bE)(a1:Int×Int×Bool)(l0_1:a0.1.length<=2^63-1)(l0_2:a0.2.length<=2^63-1)(hb:(0<=a1.1/\a1.1 < a0.2.length)/\(0<=a1.2.1/\a1.2.1 < a0.2.length)):Con Tryz.prog 34 [(.a [(.s 0 0 a0.1.length 1),(.s 1 0 a0.2.length 8)]),(.a [(iv a1.1),(iv a1.2.1),(.v (.bool a1.2.2))])] [(.live false true (flat c3 a0.1)),(.live false true (flat bZ a0.2))] (iv (F34 a0 a1)) []:=by
 refine bA Tryz.func34 (by kernel_rfl) fun cx hcx=>?_
 rcases vA a1.2.2 with h0 | h0
 ·skip
  have e:=Eq.refl (F34 a0 a1);conv at e=>rhs;simp only [F34,h0,aW]
  rw [e]
  exact rt [.d h0] [] [] hcx (by kernel_rfl)
 ·skip
  have e:=Eq.refl (F34 a0 a1);conv at e=>rhs;simp only [F34,h0,aW]
  rw [e]
  exact rt [.d h0,.i (a1.1) (a0.2.length),.L bU a0.2 a1.1 0 8,.i (a1.2.1) (a0.2.length),.L bU a0.2 a1.2.1 0 8] [] [] hcx (by kernel_rfl)
def F43 (a0:List Int×bE)(a1:Int×Int×Bool):Int :=
 (bif a1.2.2 then
  1
 else
  (W ((W ((a0.2.getD (tN a1.1) dF).2.1 - (a0.2.getD (tN a1.1) dF).1))*(W ((a0.2.getD (tN a1.2.1) dF).2.1 - (a0.2.getD (tN a1.2.1) dF).1)))))
theorem C43 (a0:List Int×bE)(a1:Int×Int×Bool)(l0_1:a0.1.length<=2^63-1)(l0_2:a0.2.length<=2^63-1)(hb:(0<=a1.1/\a1.1 < a0.2.length)/\(0<=a1.2.1/\a1.2.1 < a0.2.length)):Con Tryz.prog 43 [(.a [(.s 0 0 a0.1.length 1),(.s 1 0 a0.2.length 8)]),(.a [(iv a1.1),(iv a1.2.1),(.v (.bool a1.2.2))])] [(.live false true (flat c3 a0.1)),(.live false true (flat bZ a0.2))] (iv (F43 a0 a1)) []:=by
 refine bA Tryz.func43 (by kernel_rfl) fun cx hcx=>?_
 rcases vA a1.2.2 with h0 | h0
 ·skip
  have e:=Eq.refl (F43 a0 a1);conv at e=>rhs;simp only [F43,h0,aW]
  rw [e]
  exact rt [.d h0] [] [] hcx (by kernel_rfl)
 ·skip
  have e:=Eq.refl (F43 a0 a1);conv at e=>rhs;simp only [F43,h0,aW]
  rw [e]
  exact rt [.d h0,.i (a1.1) (a0.2.length),.L bU a0.2 a1.1 0 8,.i (a1.2.1) (a0.2.length),.L bU a0.2 a1.2.1 0 8] [] [] hcx (by kernel_rfl)
def F36 (a0:Int×Int):Bool :=
 (!(F37 a0))
theorem C36 (a0:Int×Int):Con Tryz.prog 36 [(.a [(iv a0.1),(iv a0.2)])] [] (.v (.bool (F36 a0))) []:=by
 refine bA Tryz.func36 (by kernel_rfl) fun cx hcx=>?_
 have e:=Eq.refl (F36 a0);conv at e=>rhs;simp only [F36]
 rw [e]
 exact rt [.c [] (C37 a0)] [] [] hcx (by kernel_rfl)
noncomputable def rU:Code:=(aN [1,0,1] [] (aL Tryz.f54) []).1
noncomputable def rV:List K:=(aN [1,0,1] [] (aL Tryz.f54) []).2
def qN (a0:List (Int×Int))(v1:Int):LS:=⟨gO 19 [(0,(.s 0 0 a0.length 2)),(1,(.v (.func (.func 36) #[] #[]))),(7,(iv (a0.length:Int))),(8,(iv v1))],[(.live false true (flat jY a0))]⟩
def eG (a0:List (Int×Int)):Int->(Int)⊕(Int)
 | v1 =>
  (bif (decide ((v1:Int) < (a0.length:Int))) then
   (bif (F36 (a0.getD (tN v1) dF)) then
    (.inr v1)
   else
    (.inl (v1+1)))
  else
   (.inr (-1)))
theorem aHm (a0:List (Int×Int))(l0:a0.length<=2^63-1) {cx:Cx} (hcx:cx.base=1):∀(n:Nat) (v1:Int),0<=v1->tN ((a0.length:Int) - v1) < n->Aw.Good Tryz.prog none 9 (bodyPost Tryz.prog Tryz.f54 (RR cx (iv (aH (eG a0) n v1)) [] [])) cx [] (.l rU n::rV) (qN a0 v1):=by
 intro n
 induction n with
 | zero=>intro v1 hi hn;exact absurd hn (eL _)
 | succ n ih =>
  intro v1 hi hn
  refine aS ?_
  cases h0:(decide ((v1:Int) < (a0.length:Int))) with
  | true =>
   have q0:=cN h0
   let t1:List (St Tryz.prog):=[.d h0,.i v1 (a0.length),.L gP a0 v1 0 2,.c [] (C36 (a0.getD (tN v1) dF))]
   cases h1:(F36 (a0.getD (tN v1) dF)) with
   | true =>
    have e:=Eq.refl (eG a0 v1);conv at e=>rhs;simp only [eG,h0,h1,aW]
    rw [aK,e]
    exact rt (t1++[.d h1]) [] [] hcx (by kernel_rfl)
   | false =>
    have e:=Eq.refl (eG a0 v1);conv at e=>rhs;simp only [eG,h0,h1,aW]
    rw [aI e]
    refine ba (t1++[.d h1]) [] [0,1,7,8] [] hcx (m:=n) rU (rV) (qN a0 (W (v1+1))) (by kernel_rfl) ?_
    have z0:(W (v1+1))=(v1+1):=aR (by omega) (by omega)
    rw [z0]
    exact ih (v1+1) (by omega) (by omega)
  | false =>
   have q0:=cY h0
   have e:=Eq.refl (eG a0 v1);conv at e=>rhs;simp only [eG,h0,aW]
   rw [aK,e]
   exact rt [.d h0] [] [] hcx (by kernel_rfl)
def sJ (a0:List (Int×Int)):Int :=
 (aH (eG a0) (tN ((a0.length:Int) - 0)+1) 0)
theorem aMz (a0:List (Int×Int))(l0:a0.length<=2^63-1):Con Tryz.prog 54 [(.s 0 0 a0.length 2),(.v (.func (.func 36) #[] #[]))] [(.live false true (flat jY a0))] (iv (sJ a0)) []:=by
 refine bA Tryz.func54 (by kernel_rfl) fun cx hcx=>?_
 have e:=Eq.refl (sJ a0);conv at e=>rhs;simp only [sJ]
 rw [e]
 refine en [] [] [0,1,7,8] [] hcx rU (rV) (qN a0 0) (tN ((a0.length:Int) - 0)+1) (by kernel_rfl) ?_
 exact aHm a0 l0 hcx (tN ((a0.length:Int) - 0)+1) 0 (by omega) (by omega)
def pD (a0:List (Int×Int)):Bool :=
 (decide (((sJ a0):Int)≥0))
theorem aM0 (a0:List (Int×Int))(l0:a0.length<=2^63-1):Con Tryz.prog 35 [(.s 0 0 a0.length 2),(.v (.func (.func 36) #[] #[]))] [(.live false true (flat jY a0))] (.v (.bool (pD a0))) []:=by
 refine bA Tryz.func35 (by kernel_rfl) fun cx hcx=>?_
 have e:=Eq.refl (pD a0);conv at e=>rhs;simp only [pD]
 rw [e]
 exact rt [.c [0] (aMz a0 (by omega))] [] [] hcx (by kernel_rfl)
def F9 (a0:(List Int×bE)×(List (Int×Int×Bool))×List (List (Int×Int))):(List Int×bE)×(List (Int×Int×Bool))×List (List (Int×Int)) :=
 ((a0.1.1,a0.1.2),a0.2.1,a0.2.2)
theorem C9 (a0:(List Int×bE)×(List (Int×Int×Bool))×List (List (Int×Int)))(l0_1_1:a0.1.1.length<=2^63-1)(l0_1_2:a0.1.2.length<=2^63-1)(l0_2_1:a0.2.1.length<=2^63-1)(l0_2_2:a0.2.2.length<=2^63-1):Con Tryz.prog 9 [(.a [(.s 0 0 a0.1.1.length 1),(.s 1 0 a0.1.2.length 8),(.s 2 0 a0.2.1.length 3),(.s 3 0 a0.2.2.length 1)])] [(.live false true (flat c3 a0.1.1)),(.live false true (flat bZ a0.1.2)),(.live false true (flat eS a0.2.1)),(.live false true (flat jM a0.2.2))] (.a [(.s 0 0 a0.1.1.length 1),(.s 1 0 a0.1.2.length 8),(.s 2 0 a0.2.1.length 3),(.s 3 0 a0.2.2.length 1)]) []:=by
 refine bA Tryz.func9 (by kernel_rfl) fun cx hcx=>?_
 have e:=Eq.refl (F9 a0);conv at e=>rhs;simp only [F9]
 try rw [e]
 exact rt [] [] [] hcx (by kernel_rfl)
def F11 (a0:(List Int×bE)×(List (Int×Int×Bool))×List (List (Int×Int))):(List Int×bE)×(List (Int×Int×Bool))×List (List (Int×Int)) :=
 ((a0.1.1,a0.1.2),a0.2.1,a0.2.2)
theorem C11 (a0:(List Int×bE)×(List (Int×Int×Bool))×List (List (Int×Int)))(l0_1_1:a0.1.1.length<=2^63-1)(l0_1_2:a0.1.2.length<=2^63-1)(l0_2_1:a0.2.1.length<=2^63-1)(l0_2_2:a0.2.2.length<=2^63-1):Con Tryz.prog 11 [(.a [(.s 0 0 a0.1.1.length 1),(.s 1 0 a0.1.2.length 8),(.s 2 0 a0.2.1.length 3),(.s 3 0 a0.2.2.length 1)])] [(.live false true (flat c3 a0.1.1)),(.live false true (flat bZ a0.1.2)),(.live false true (flat eS a0.2.1)),(.live false true (flat jM a0.2.2))] (.a [(.s 0 0 a0.1.1.length 1),(.s 1 0 a0.1.2.length 8),(.s 2 0 a0.2.1.length 3),(.s 3 0 a0.2.2.length 1)]) []:=by
 refine bA Tryz.func11 (by kernel_rfl) fun cx hcx=>?_
 have e:=Eq.refl (F11 a0);conv at e=>rhs;simp only [F11]
 try rw [e]
 exact rt [] [] [] hcx (by kernel_rfl)
noncomputable def aT6:Code:=(aN [1,1,0,1] [] (aL Tryz.f6) []).1
noncomputable def aT7:List K:=(aN [1,1,0,1] [] (aL Tryz.f6) []).2
def aP0 (a0:(List Int×bE)×(List (Int×Int×Bool))×List (List (Int×Int)))(v1:Int):LS:=⟨gO 42 [(1,(.p 4 0)),(3,(iv v1))],[(.live false true (flat c3 a0.1.1)),(.live false true (flat bZ a0.1.2)),(.live false true (flat eS a0.2.1)),(.live false true (flat jM a0.2.2)),(.live true false [(.s 0 0 a0.1.1.length 1),(.s 1 0 a0.1.2.length 8),(.s 2 0 a0.2.1.length 3),(.s 3 0 a0.2.2.length 1)])]⟩
def aCf (a0:(List Int×bE)×(List (Int×Int×Bool))×List (List (Int×Int))):Int->(Int)⊕(Bool)
 | v1 =>
  (bif (decide ((v1:Int) < (a0.2.2.length:Int))) then
   (bif (decide (((((a0.2.2.getD (tN v1) dF).length:Nat):Int):Int) > 2000)) then
    (.inr true)
   else
    (.inl (v1+1)))
  else
   (.inr false))
theorem aWv (a0:(List Int×bE)×(List (Int×Int×Bool))×List (List (Int×Int)))(l0_1_1:a0.1.1.length<=2^63-1)(l0_1_2:a0.1.2.length<=2^63-1)(l0_2_1:a0.2.1.length<=2^63-1)(l0_2_2:a0.2.2.length<=2^63-1) {cx:Cx} (hcx:cx.base=4):∀(n:Nat) (v1:Int),0<=v1->tN ((a0.2.2.length:Int) - v1) < n->Aw.Good Tryz.prog none 9 (bodyPost Tryz.prog Tryz.f6 (RR cx (.v (.bool (aH (aCf a0) n v1))) [] [])) cx [] (.l aT6 n::aT7) (aP0 a0 v1):=by
 intro n
 induction n with
 | zero=>intro v1 hi hn;exact absurd hn (eL _)
 | succ n ih =>
  intro v1 hi hn
  refine aS ?_
  cases h0:(decide ((v1:Int) < (a0.2.2.length:Int))) with
  | true =>
   have q0:=cN h0
   let t1:List (St Tryz.prog):=[.d h0,.i v1 (a0.2.2.length),.L jK a0.2.2 v1 0 1,.p (fZ (c:=jY) (fun _=>rfl) (a0.2.2.getD (tN v1) dF))]
   cases h1:(decide (((((a0.2.2.getD (tN v1) dF).length:Nat):Int):Int) > 2000)) with
   | true =>
    have q1:=cN h1
    have e:=Eq.refl (aCf a0 v1);conv at e=>rhs;simp only [aCf,h0,h1,aW]
    rw [aK,e]
    exact rt (t1++[.d h1]) [] [] hcx (by kernel_rfl)
   | false =>
    have q1:=cY h1
    have e:=Eq.refl (aCf a0 v1);conv at e=>rhs;simp only [aCf,h0,h1,aW]
    rw [aI e]
    refine ba (t1++[.d h1]) [] [1,3] [4] hcx (m:=n) aT6 (aT7) (aP0 a0 (W (v1+1))) (by kernel_rfl) ?_
    have z0:(W (v1+1))=(v1+1):=aR (by omega) (by omega)
    rw [z0]
    exact ih (v1+1) (by omega) (by omega)
  | false =>
   have q0:=cY h0
   have e:=Eq.refl (aCf a0 v1);conv at e=>rhs;simp only [aCf,h0,aW]
   rw [aK,e]
   exact rt [.d h0] [] [] hcx (by kernel_rfl)
def F6 (a0:(List Int×bE)×(List (Int×Int×Bool))×List (List (Int×Int))):Bool :=
 (bif (decide (((a0.1.1.length:Int):Int) > 100)) then
  true
 else
  (bif (decide (((a0.1.2.length:Int):Int) > 200)) then
   true
  else
   (bif (decide (((a0.2.1.length:Int):Int) > 2000)) then
    true
   else
    (bif (decide (((a0.2.2.length:Int):Int) > 2000)) then
     true
    else
     (aH (aCf a0) (tN ((a0.2.2.length:Int) - 0)+1) 0)))))
theorem C6 (a0:(List Int×bE)×(List (Int×Int×Bool))×List (List (Int×Int)))(l0_1_1:a0.1.1.length<=2^63-1)(l0_1_2:a0.1.2.length<=2^63-1)(l0_2_1:a0.2.1.length<=2^63-1)(l0_2_2:a0.2.2.length<=2^63-1):Con Tryz.prog 6 [(.a [(.s 0 0 a0.1.1.length 1),(.s 1 0 a0.1.2.length 8),(.s 2 0 a0.2.1.length 3),(.s 3 0 a0.2.2.length 1)])] [(.live false true (flat c3 a0.1.1)),(.live false true (flat bZ a0.1.2)),(.live false true (flat eS a0.2.1)),(.live false true (flat jM a0.2.2))] (.v (.bool (F6 a0))) []:=by
 refine bA Tryz.func6 (by kernel_rfl) fun cx hcx=>?_
 cases h0:(decide (((a0.1.1.length:Int):Int) > 100)) with
 | true =>
  have q0:=cN h0
  have e:=Eq.refl (F6 a0);conv at e=>rhs;simp only [F6,h0,aW]
  rw [e]
  exact rt [.d h0] [] [] hcx (by kernel_rfl)
 | false =>
  have q0:=cY h0
  let t1:List (St Tryz.prog):=[.d h0]
  cases h1:(decide (((a0.1.2.length:Int):Int) > 200)) with
  | true =>
   have q1:=cN h1
   have e:=Eq.refl (F6 a0);conv at e=>rhs;simp only [F6,h0,h1,aW]
   rw [e]
   exact rt (t1++[.d h1]) [] [] hcx (by kernel_rfl)
  | false =>
   have q1:=cY h1
   let t2:List (St Tryz.prog):=(t1++[.d h1])
   cases h2:(decide (((a0.2.1.length:Int):Int) > 2000)) with
   | true =>
    have q2:=cN h2
    have e:=Eq.refl (F6 a0);conv at e=>rhs;simp only [F6,h0,h1,h2,aW]
    rw [e]
    exact rt (t2++[.d h2]) [] [] hcx (by kernel_rfl)
   | false =>
    have q2:=cY h2
    let t3:List (St Tryz.prog):=(t2++[.d h2])
    cases h3:(decide (((a0.2.2.length:Int):Int) > 2000)) with
    | true =>
     have q3:=cN h3
     have e:=Eq.refl (F6 a0);conv at e=>rhs;simp only [F6,h0,h1,h2,h3,aW]
     rw [e]
     exact rt (t3++[.d h3]) [] [] hcx (by kernel_rfl)
    | false =>
     have q3:=cY h3
     have e:=Eq.refl (F6 a0);conv at e=>rhs;simp only [F6,h0,h1,h2,h3,aW]
     rw [e]
     refine en (t3++[.d h3]) [] [1,3] [4] hcx aT6 (aT7) (aP0 a0 0) (tN ((a0.2.2.length:Int) - 0)+1) (by kernel_rfl) ?_
     exact aWv a0 l0_1_1 l0_1_2 l0_2_1 l0_2_2 hcx (tN ((a0.2.2.length:Int) - 0)+1) 0 (by omega) (by omega)
noncomputable def aP1:Code:=(aN [1,1,0,1] [] (aL Tryz.f15) []).1
noncomputable def aP2:List K:=(aN [1,1,0,1] [] (aL Tryz.f15) []).2
def aJo (a0:(List Int×bE)×(List (Int×Int×Bool))×List (List (Int×Int)))(v1 v2:Int):LS:=⟨gO 19 [(3,(iv v1)),(7,(.s 3 0 a0.2.2.length 1)),(8,(iv (a0.2.2.length:Int))),(9,(iv v2))],[(.live false true (flat c3 a0.1.1)),(.live false true (flat bZ a0.1.2)),(.live false true (flat eS a0.2.1)),(.live false true (flat jM a0.2.2))]⟩
def aC7 (a0:(List Int×bE)×(List (Int×Int×Bool))×List (List (Int×Int))):Int×Int->(Int×Int)⊕(Int)
 | (v1,v2) =>
  (bif (decide ((v2:Int) < (a0.2.2.length:Int))) then
   (.inl ((W (v1+(((a0.2.2.getD (tN v2) dF).length:Nat):Int))),(v2+1)))
  else
   (.inr v1))
theorem aV6 (a0:(List Int×bE)×(List (Int×Int×Bool))×List (List (Int×Int)))(l0_1_1:a0.1.1.length<=2^63-1)(l0_1_2:a0.1.2.length<=2^63-1)(l0_2_1:a0.2.1.length<=2^63-1)(l0_2_2:a0.2.2.length<=2^63-1) {cx:Cx} (hcx:cx.base=4):∀(n:Nat) (v1 v2:Int),0<=v2->tN ((a0.2.2.length:Int) - v2) < n->Aw.Good Tryz.prog none 9 (bodyPost Tryz.prog Tryz.f15 (RR cx (iv (aH (aC7 a0) n (v1,v2))) [] [])) cx [] (.l aP1 n::aP2) (aJo a0 v1 v2):=by
 intro n
 induction n with
 | zero=>intro v1 v2 hi hn;exact absurd hn (eL _)
 | succ n ih =>
  intro v1 v2 hi hn
  refine aS ?_
  cases h0:(decide ((v2:Int) < (a0.2.2.length:Int))) with
  | true =>
   have q0:=cN h0
   have e:=Eq.refl (aC7 a0 (v1,v2));conv at e=>rhs;simp only [aC7,h0,aW]
   rw [aI e]
   refine ba [.d h0,.i v2 (a0.2.2.length),.L jK a0.2.2 v2 0 1,.p (fZ (c:=jY) (fun _=>rfl) (a0.2.2.getD (tN v2) dF))] [] [3,7,8,9] [] hcx (m:=n) aP1 (aP2) (aJo a0 (W (v1+(((a0.2.2.getD (tN v2) dF).length:Nat):Int))) (W (v2+1))) (by kernel_rfl) ?_
   have z0:(W (v2+1))=(v2+1):=aR (by omega) (by omega)
   rw [z0]
   exact ih (W (v1+(((a0.2.2.getD (tN v2) dF).length:Nat):Int))) (v2+1) (by omega) (by omega)
  | false =>
   have q0:=cY h0
   have e:=Eq.refl (aC7 a0 (v1,v2));conv at e=>rhs;simp only [aC7,h0,aW]
   rw [aK,e]
   exact rt [.d h0] [] [] hcx (by kernel_rfl)
def F15 (a0:(List Int×bE)×(List (Int×Int×Bool))×List (List (Int×Int))):Int :=
 (aH (aC7 a0) (tN ((a0.2.2.length:Int) - 0)+1) (0,0))
theorem C15 (a0:(List Int×bE)×(List (Int×Int×Bool))×List (List (Int×Int)))(l0_1_1:a0.1.1.length<=2^63-1)(l0_1_2:a0.1.2.length<=2^63-1)(l0_2_1:a0.2.1.length<=2^63-1)(l0_2_2:a0.2.2.length<=2^63-1):Con Tryz.prog 15 [(.a [(.s 0 0 a0.1.1.length 1),(.s 1 0 a0.1.2.length 8),(.s 2 0 a0.2.1.length 3),(.s 3 0 a0.2.2.length 1)])] [(.live false true (flat c3 a0.1.1)),(.live false true (flat bZ a0.1.2)),(.live false true (flat eS a0.2.1)),(.live false true (flat jM a0.2.2))] (iv (F15 a0)) []:=by
 refine bA Tryz.func15 (by kernel_rfl) fun cx hcx=>?_
 have e:=Eq.refl (F15 a0);conv at e=>rhs;simp only [F15]
 rw [e]
 refine en [] [] [3,7,8,9] [] hcx aP1 (aP2) (aJo a0 0 0) (tN ((a0.2.2.length:Int) - 0)+1) (by kernel_rfl) ?_
 exact aV6 a0 l0_1_1 l0_1_2 l0_2_1 l0_2_2 hcx (tN ((a0.2.2.length:Int) - 0)+1) 0 0 (by omega) (by omega)
noncomputable def aP3:Code:=(aN [1,1,0,1] [] (aL Tryz.f16) []).1
noncomputable def aP4:List K:=(aN [1,1,0,1] [] (aL Tryz.f16) []).2
def aJp (a0:(List Int×bE)×(List (Int×Int×Bool))×List (List (Int×Int)))(v1 v2:Int):LS:=⟨gO 21 [(1,(.p 4 0)),(3,(iv v1)),(4,(iv v2))],[(.live false true (flat c3 a0.1.1)),(.live false true (flat bZ a0.1.2)),(.live false true (flat eS a0.2.1)),(.live false true (flat jM a0.2.2)),(.live true false [(.s 0 0 a0.1.1.length 1),(.s 1 0 a0.1.2.length 8),(.s 2 0 a0.2.1.length 3),(.s 3 0 a0.2.2.length 1)])]⟩
def aC8 (a0:(List Int×bE)×(List (Int×Int×Bool))×List (List (Int×Int))):Int×Int->(Int×Int)⊕(Int)
 | (v1,v2) =>
  (bif (decide ((v2:Int) < (a0.2.2.length:Int))) then
   (.inl ((W (v1+(((a0.2.2.getD (tN v2) dF).length:Nat):Int))),(v2+1)))
  else
   (.inr v1))
theorem aV7 (a0:(List Int×bE)×(List (Int×Int×Bool))×List (List (Int×Int)))(l0_1_1:a0.1.1.length<=2^63-1)(l0_1_2:a0.1.2.length<=2^63-1)(l0_2_1:a0.2.1.length<=2^63-1)(l0_2_2:a0.2.2.length<=2^63-1) {cx:Cx} (hcx:cx.base=4):∀(n:Nat) (v1 v2:Int),0<=v2->tN ((a0.2.2.length:Int) - v2) < n->Aw.Good Tryz.prog none 9 (bodyPost Tryz.prog Tryz.f16 (RR cx (iv (aH (aC8 a0) n (v1,v2))) [] [])) cx [] (.l aP3 n::aP4) (aJp a0 v1 v2):=by
 intro n
 induction n with
 | zero=>intro v1 v2 hi hn;exact absurd hn (eL _)
 | succ n ih =>
  intro v1 v2 hi hn
  refine aS ?_
  cases h0:(decide ((v2:Int) < (a0.2.2.length:Int))) with
  | true =>
   have q0:=cN h0
   have e:=Eq.refl (aC8 a0 (v1,v2));conv at e=>rhs;simp only [aC8,h0,aW]
   rw [aI e]
   refine ba [.d h0,.i v2 (a0.2.2.length),.L jK a0.2.2 v2 0 1,.p (fZ (c:=jY) (fun _=>rfl) (a0.2.2.getD (tN v2) dF))] [] [1,3,4] [4] hcx (m:=n) aP3 (aP4) (aJp a0 (W (v1+(((a0.2.2.getD (tN v2) dF).length:Nat):Int))) (W (v2+1))) (by kernel_rfl) ?_
   have z0:(W (v2+1))=(v2+1):=aR (by omega) (by omega)
   rw [z0]
   exact ih (W (v1+(((a0.2.2.getD (tN v2) dF).length:Nat):Int))) (v2+1) (by omega) (by omega)
  | false =>
   have q0:=cY h0
   have e:=Eq.refl (aC8 a0 (v1,v2));conv at e=>rhs;simp only [aC8,h0,aW]
   rw [aK,e]
   exact rt [.d h0] [] [] hcx (by kernel_rfl)
def F16 (a0:(List Int×bE)×(List (Int×Int×Bool))×List (List (Int×Int))):Int :=
 (aH (aC8 a0) (tN ((a0.2.2.length:Int) - 0)+1) (0,0))
theorem C16 (a0:(List Int×bE)×(List (Int×Int×Bool))×List (List (Int×Int)))(l0_1_1:a0.1.1.length<=2^63-1)(l0_1_2:a0.1.2.length<=2^63-1)(l0_2_1:a0.2.1.length<=2^63-1)(l0_2_2:a0.2.2.length<=2^63-1):Con Tryz.prog 16 [(.a [(.s 0 0 a0.1.1.length 1),(.s 1 0 a0.1.2.length 8),(.s 2 0 a0.2.1.length 3),(.s 3 0 a0.2.2.length 1)])] [(.live false true (flat c3 a0.1.1)),(.live false true (flat bZ a0.1.2)),(.live false true (flat eS a0.2.1)),(.live false true (flat jM a0.2.2))] (iv (F16 a0)) []:=by
 refine bA Tryz.func16 (by kernel_rfl) fun cx hcx=>?_
 have e:=Eq.refl (F16 a0);conv at e=>rhs;simp only [F16]
 rw [e]
 refine en [] [] [1,3,4] [4] hcx aP3 (aP4) (aJp a0 0 0) (tN ((a0.2.2.length:Int) - 0)+1) (by kernel_rfl) ?_
 exact aV7 a0 l0_1_1 l0_1_2 l0_2_1 l0_2_2 hcx (tN ((a0.2.2.length:Int) - 0)+1) 0 0 (by omega) (by omega)
theorem aP5 {f c u:Int} (h:f<=c/\c<=u):rg f c++rg c u=rg f u:=by
 obtain⟨d,hd⟩:∃d:Nat,tN (c - f)=d:=⟨_,rfl⟩
 induction d generalizing f with
 | zero=>rw [show c=f by omega,aT3 (Int.le_refl f)];rfl
 | succ d ih=>rw [aLk (f:=f) (u:=c) (by omega),List.cons_append,ih ⟨by omega,h.2⟩ (by omega),←aLk (f:=f) (u:=u) (by omega)]
theorem aR0 {n i f c u:Int} (h:f<=c/\c<=u):row n i f c++row n i c u=row n i f u:=by
 unfold row
 rw [←List.map_append,aP5 h]
theorem aR1 {α β:Type} (l:List α)(f g:α->List β):(l.flatMap f++l.flatMap g).Perm (l.flatMap fun x=>f x++g x):=by
 induction l with
 | nil=>exact List.Perm.refl _
 | cons x l ih =>
  rw [List.flatMap_cons,List.flatMap_cons,List.flatMap_cons]
  refine List.Perm.trans ?_ (List.Perm.append_left (f x++g x) ih)
  rw [List.append_assoc,List.append_assoc]
  refine List.Perm.append_left (f x) ?_
  rw [←List.append_assoc,←List.append_assoc]
  exact List.Perm.append_right _ List.perm_append_comm
def cel (n f u f' u':Int):List Int:=(rg f u).flatMap fun a=>row n a f' u'
theorem aR2 {n f c u f' u':Int} (h:f<=c/\c<=u):cel n f c f' u'++cel n c u f' u'=cel n f u f' u':=by
 unfold cel
 rw [←List.flatMap_append,aP5 h]
theorem aP6 {n f u f' c u':Int} (h:f'<=c/\c<=u'):(cel n f u f' c++cel n f u c u').Perm (cel n f u f' u'):=by
 unfold cel
 refine(aR1 _ _ _).trans ?_
 rw [aBo (rg f u) (fun a _=>aR0 h)]
theorem vW (w:Int):∀(nr:Nat) (t:TR) (i k sep:Int) (m:Nat) (f u h:Int) (m':Nat) (f' u' h':Int),TRE t.2 (tN i) m f u h->TRE t.2 (tN k) m' f' u' h'->0<=i->0<=k->(t.2.length - tN i)+(t.2.length - tN k) < nr ->
 ((cF nr t i k sep).flatMap (aJi w t.2)).Perm (cel w f u f' u')/\∀x∈cF nr t i k sep,(0<=x.1/\x.1 < t.2.length)/\(0<=x.2.1/\x.2.1 < t.2.length)
 | 0,_,_,_,_,_,_,_,_,_,_,_,_,_,_,_,_,h=>absurd h (eL _)
 | nr+1,t,i,k,sep,m,f,u,h,m',f',u',h',H,K,hi,hk,hn=>by
  have hb:=cG H
  have kb:=cG K
  have hs:∀b:Bool,(([(i,k,b)]:List BLK).flatMap (aJi w t.2)).Perm (cel w f u f' u')/\∀x∈([(i,k,b)]:List BLK),(0<=x.1/\x.1 < t.2.length)/\(0<=x.2.1/\x.2.1 < t.2.length):=by
   intro b
   refine⟨?_,fun x hx=>?_⟩
   ·rw [List.flatMap_cons,List.flatMap_nil,List.append_nil]
    unfold aJi cel
    simp only
    rw [hb.2.2.2.2.2.1,hb.2.2.2.2.2.2,kb.2.2.2.2.2.1,kb.2.2.2.2.2.2]
   ·obtain rfl:=List.mem_singleton.1 hx
    exact⟨⟨hi,by simp only;omega⟩,hk,by simp only;omega⟩
  have hA:¬(t.2.getD (tN i) dF).2.2.1 < 0->((fI (cF nr) t i k sep++eU (cF nr) t i k sep).flatMap (aJi w t.2)).Perm (cel w f u f' u')/\∀x∈fI (cF nr) t i k sep++eU (cF nr) t i k sep,(0<=x.1/\x.1 < t.2.length)/\(0<=x.2.1/\x.2.1 < t.2.length):=by
   intro hq
   rcases iB H with⟨_,_,h5,_⟩ | ⟨m1,m2,c,h1,h2,e8,g4,g5,b1,b2,e9⟩
   ·omega
   ·have l1:=cG b1
    have l2:=cG b2
    have c1:=vW w nr t (t.2.getD (tN i) dF).2.2.1 k sep m1 f c h1 m' f' u' h' (by rw [g4,fT];exact b1) K (by omega) hk (by omega)
    have c2:=vW w nr t (t.2.getD (tN i) dF).2.2.2.1 k sep m2 c u h2 m' f' u' h' (by rw [g5,fT];exact b2) K (by omega) hk (by omega)
    refine⟨?_,fun x hx=>?_⟩
    ·rw [List.flatMap_append,←aR2 (c:=c) (by omega)]
     exact c1.1.append c2.1
    ·rcases List.mem_append.1 hx with hx | hx
     ·exact c1.2 x hx
     ·exact c2.2 x hx
  have hB:¬(t.2.getD (tN k) dF).2.2.1 < 0->((dR (cF nr) t i k sep++dJ (cF nr) t i k sep).flatMap (aJi w t.2)).Perm (cel w f u f' u')/\∀x∈dR (cF nr) t i k sep++dJ (cF nr) t i k sep,(0<=x.1/\x.1 < t.2.length)/\(0<=x.2.1/\x.2.1 < t.2.length):=by
   intro hq
   rcases iB K with⟨_,_,h5,_⟩ | ⟨m1,m2,c,h1,h2,e8,g4,g5,b1,b2,e9⟩
   ·omega
   ·have l1:=cG b1
    have l2:=cG b2
    have c1:=vW w nr t i (t.2.getD (tN k) dF).2.2.1 sep m f u h m1 f' c h1 H (by rw [g4,fT];exact b1) hi (by omega) (by omega)
    have c2:=vW w nr t i (t.2.getD (tN k) dF).2.2.2.1 sep m f u h m2 c u' h2 H (by rw [g5,fT];exact b2) hi (by omega) (by omega)
    refine⟨?_,fun x hx=>?_⟩
    ·rw [List.flatMap_append]
     exact(c1.1.append c2.1).trans (aP6 (by omega))
    ·rcases List.mem_append.1 hx with hx | hx
     ·exact c1.2 x hx
     ·exact c2.2 x hx
  have hJ:((eW (cF nr) t i k sep ()).flatMap (aJi w t.2)).Perm (cel w f u f' u')/\∀x∈eW (cF nr) t i k sep (),(0<=x.1/\x.1 < t.2.length)/\(0<=x.2.1/\x.2.1 < t.2.length):=by
   simp only [eW]
   by_cases z5:(t.2.getD (tN i) dF).2.2.1 < 0<;>by_cases z6:(t.2.getD (tN k) dF).2.2.1 < 0
   ·rw [cI z5,cI z6,cond_true,cond_true];exact hs false
   ·rw [cI z5,dA z6,cond_true,cond_false,dA (show ¬(t.2.getD (tN i) dF).2.2.1≥0 by omega),cond_false];exact hB z6
   ·rw [dA z5,cI z6,cond_false,cond_true];exact hA z5
   ·rw [dA z5,dA z6,cond_false,cond_false,cI (show(t.2.getD (tN i) dF).2.2.1≥0 by omega),cond_true,Bool.cond_eq_ite]
    split
    ·exact hA z5
    ·exact hB z6
  simp only [cF]
  rw [Bool.cond_eq_ite]
  split
  ·rw [Bool.cond_eq_ite]
   split
   ·exact hs true
   ·exact hJ
  ·exact hJ
theorem zG {l:gU} {t:TR} (sep:Int)(h:gM l t=0):((F42 t sep).flatMap (aJi l.length t.2)).Perm (cel l.length 0 l.length 0 l.length)/\(∀x∈F42 t sep,(0<=x.1/\x.1 < t.2.length)/\(0<=x.2.1/\x.2.1 < t.2.length))/\(F42 t sep).length<=9216:=by
 obtain⟨hv,leaf,h1,_,rfl⟩:=uH h
 have hl:=hv.1
 rcases aE5 l h1 with⟨e0,e⟩ | ⟨hh,H⟩
 ·rw [e,e0]
  exact⟨List.Perm.refl _,⟨fun x hx=>(by cases hx),Nat.zero_le _⟩⟩
 ·have hw:=cG H
  unfold F42
  rw [show((((BT l leaf).2.length:Nat):Int) == 0)=false by rw [beq_eq_false_iff_ne];omega,cond_false]
  simp only [F63]
  have qa:=vW l.length _ (BT l leaf) 0 0 sep _ _ _ _ _ _ _ _ H H (Int.le_refl _) (Int.le_refl _) (lss _)
  have qb:=mL _ (BT l leaf) 0 0 sep _ _ _ _ _ _ _ _ H H (Int.le_refl _) (Int.le_refl _) (lss _)
  refine⟨qa.1,qa.2,?_⟩
  have hm:((l.length:Int) - 0)*((l.length:Int) - 0)<=96*96:=Int.mul_le_mul (by omega) (by omega) (by omega) (by omega)
  exact Int.ofNat_le.1 (Int.le_trans qb hm)
theorem aLx (a b:List BLK):lK a b=jJ a b:=rfl
theorem aP7 {a b:List BLK} (h:jJ a b=true):a=b:=by
 unfold jJ at h
 by_cases hl:a.length=b.length
 ·rw [show(((a.length:Int):Int) != (b.length:Int))=false by rw [hl];simp,cond_false] at h
  refine aBn hl (zB (N:=a.length) (p:=fun j=>a.getD j dF=b.getD j dF) (fun i hi=>?_) a.length 0 _ (by omega) (by omega) (by omega) h · (Nat.zero_le _) ·)
  simp only [iW,fT]
  rw [cI (show((i:Nat):Int) < (a.length:Nat) by omega),cond_true]
  generalize a.getD i dF=x
  generalize b.getD i dF=y
  obtain⟨x1,x2,x3⟩:=x
  obtain⟨y1,y2,y3⟩:=y
  dsimp only
  rw [Bool.cond_eq_ite]
  split
  ·exact .inr rfl
  ·rename_i hq
   refine .inl ⟨rfl,?_⟩
   simp at hq ⊢
   exact⟨hq.1,hq.2.1,hq.2.2⟩
 ·rw [show(((a.length:Int):Int) != (b.length:Int))=true by rw [bne_iff_ne];omega,cond_true] at h
  cases h
def FND (o:tE)(b:Bool):Prop:=b=true->∃sep:Int,o.2.1=F42 o.1 sep
theorem pE {o:tE}:FND o false:=fun h=>by cases h
theorem pF {o:tE} {sep:Int}:FND o (jJ o.2.1 (F42 (o.1.1,o.1.2) sep)):=fun h=>⟨sep,aP7 h⟩
theorem qW {l:gU} {o:tE} (hc:gM l (o.1.1,o.1.2)=0) {sep:Int}:FND o (lK o.2.1 (F33 (o.1.1,o.1.2) sep)):=fun h=>⟨sep,by
 rw [aLx] at h
 have e:=aP7 h
 rw [aFb (t:=(o.1.1,o.1.2)) sep hc] at e
 exact e⟩
theorem aR3 {b:Bool} (h:(!b)=false):b=true:=by cases b;cases h;rfl
structure ACQ (l:gU) (o:tE):Prop where
 chk:gM l (o.1.1,o.1.2)=0
 blk:∃sep:Int,o.2.1=F42 o.1 sep
 len:o.2.2.length=o.2.1.length
theorem kW {l:gU} {o:tE} {b:Bool} (hc:gM l (o.1.1,o.1.2)=0)(hf:FND o b)(hb:(!b)=false)(hl:(((o.2.2.length:Int):Int) != (o.2.1.length:Int))=false):ACQ l o :=
 ⟨hc,hf (aR3 hb),by have:=bne_eq_false_iff_eq.1 hl;omega⟩
theorem ACQ.dims {l:gU} {o:tE} (h:ACQ l o):o.1.1.length=l.length/\l.length<=96/\o.1.2.length<=192/\InR l.length o.1.1/\o.2.1.length<=9216:=by
 have hc:=h.chk
 obtain⟨k1,k2,k3,k4⟩:=aCw hc
 have ho:=aPf hc
 refine⟨k1,k2,k3,fun x hx=>?_,?_⟩
 ·obtain⟨j,hj,rfl⟩:=List.mem_iff_getElem.1 hx
  have:=ho (j:Int) (by omega)
  rwa [fT,fP,List.getElem?_eq_getElem hj,Option.getD_some] at this
 ·obtain⟨sep,e⟩:=h.blk
  rw [e];exact(zG sep hc).2.2
theorem ACQ.bf {l:gU} {o:tE} (h:ACQ l o) {j:Int} (h0:0<=j)(h1:j < (o.2.1.length:Int)) :
 (0<=(o.2.1.getD (tN j) dF).1/\(o.2.1.getD (tN j) dF).1 < o.1.2.length) /\
 (0<=(o.2.1.getD (tN j) dF).2.1/\(o.2.1.getD (tN j) dF).2.1 < o.1.2.length) /\
 (0<=(o.1.2.getD (tN (o.2.1.getD (tN j) dF).1) dF).1/\(o.1.2.getD (tN (o.2.1.getD (tN j) dF).1) dF).1<=(o.1.2.getD (tN (o.2.1.getD (tN j) dF).1) dF).2.1/\(o.1.2.getD (tN (o.2.1.getD (tN j) dF).1) dF).2.1<=o.1.1.length) /\
 (0<=(o.1.2.getD (tN (o.2.1.getD (tN j) dF).2.1) dF).1/\(o.1.2.getD (tN (o.2.1.getD (tN j) dF).2.1) dF).1<=(o.1.2.getD (tN (o.2.1.getD (tN j) dF).2.1) dF).2.1/\(o.1.2.getD (tN (o.2.1.getD (tN j) dF).2.1) dF).2.1<=o.1.1.length):=by
 have hc:=h.chk
 obtain⟨k1,k2,k3,k4⟩:=aCw hc
 obtain⟨sep,e0⟩:=h.blk
 have hb:=(zG sep hc).2.1
 change ∀x∈F42 o.1 sep,_ at hb
 rw [←e0] at hb
 have hlt:tN j < o.2.1.length:=by omega
 have hx:=hb _ (List.getElem_mem hlt)
 have e:o.2.1.getD (tN j) dF=o.2.1[tN j]:=by
  rw [fP,List.getElem?_eq_getElem hlt];rfl
 rw [e]
 generalize o.2.1[tN j]=b at *
 obtain⟨⟨a1,a2⟩,⟨b1,b2⟩⟩:=hx
 have n1:=k4.2.2 (tN b.1) (by simp only at a2 ⊢;omega)
 have n2:=k4.2.2 (tN b.2.1) (by simp only at b2 ⊢;omega)
 exact⟨⟨a1,a2⟩,⟨b1,b2⟩,⟨n1.1,by omega,n1.2.2⟩,⟨n2.1,by omega,n2.2.2⟩⟩
noncomputable def zH:Code:=(aN [1,1,1,1,1,0,1] [] (aL Tryz.f21) []).1
noncomputable def zI:List K:=(aN [1,1,1,1,1,0,1] [] (aL Tryz.f21) []).2
def vX (a0:bT)(a1:(List Int×bE)×(List (Int×Int×Bool))×List (List (Int×Int)))(v3:Int):LS:=⟨gO 71 [(3,(.p 5 0)),(44,(.s 3 0 a1.2.1.length 3)),(45,(iv (a1.2.1.length:Int))),(46,(iv v3))],[(.live false true (flat dI a0)),(.live false true (flat c3 a1.1.1)),(.live false true (flat bZ a1.1.2)),(.live false true (flat eS a1.2.1)),(.live false true (flat jM a1.2.2)),(.live true false [(.s 1 0 a1.1.1.length 1),(.s 2 0 a1.1.2.length 8),(.s 3 0 a1.2.1.length 3),(.s 4 0 a1.2.2.length 1)])]⟩
def iX (a0:bT)(a1:(List Int×bE)×(List (Int×Int×Bool))×List (List (Int×Int))):Int->(Int)⊕(Int)
 | v3 =>
  (bif (decide ((v3:Int) < (a1.2.1.length:Int))) then
   (bif (((((a1.2.2.getD (tN v3) dF).length:Nat):Int):Int) != (F34 (a1.1.1,a1.1.2) (a1.2.1.getD (tN v3) dF))) then
    (.inr 1)
   else
    (bif (pD (a1.2.2.getD (tN v3) dF)) then
     (.inr 1)
    else
     (.inl (v3+1))))
  else
   (.inr 0))
noncomputable def aFo:Code:=(aN [1,1,1,0,1] [] (aL Tryz.f21) []).1
noncomputable def aFp:List K:=(aN [1,1,1,0,1] [] (aL Tryz.f21) []).2
def aB0 (a0:bT)(a1:(List Int×bE)×(List (Int×Int×Bool))×List (List (Int×Int)))(v1:Bool)(v2:Int):LS:=⟨gO 71 [(3,(.p 5 0)),(6,(.v (.bool v1))),(7,(iv v2))],[(.live false true (flat dI a0)),(.live false true (flat c3 a1.1.1)),(.live false true (flat bZ a1.1.2)),(.live false true (flat eS a1.2.1)),(.live false true (flat jM a1.2.2)),(.live true false [(.s 1 0 a1.1.1.length 1),(.s 2 0 a1.1.2.length 8),(.s 3 0 a1.2.1.length 3),(.s 4 0 a1.2.2.length 1)])]⟩
def gT (a0:bT)(a1:(List Int×bE)×(List (Int×Int×Bool))×List (List (Int×Int))):Bool×Int->(Bool×Int)⊕(Int)
 | (v1,v2) =>
  (bif (decide ((v2:Int)<=16)) then
   (bif (!v1) then
    (.inl ((lK a1.2.1 (F33 (a1.1.1,a1.1.2) v2)),(v2+1)))
   else
    (bif (((a1.2.2.length:Int):Int) != (a1.2.1.length:Int)) then
     (.inr 1)
    else
     (.inr (aH (iX a0 a1) (tN ((a1.2.1.length:Int) - 0)+1) 0))))
  else
   (bif (!v1) then
    (.inr 1)
   else
    (bif (((a1.2.2.length:Int):Int) != (a1.2.1.length:Int)) then
     (.inr 1)
    else
     (.inr (aH (iX a0 a1) (tN ((a1.2.1.length:Int) - 0)+1) 0)))))
theorem aLy (a0:bT)(a1:(List Int×bE)×(List (Int×Int×Bool))×List (List (Int×Int)))(l0:a0.length<=2^63-1)(l1_1_1:a1.1.1.length<=2^63-1)(l1_1_2:a1.1.2.length<=2^63-1)(l1_2_1:a1.2.1.length<=2^63-1)(l1_2_2:a1.2.2.length<=2^63-1)(hsl:∀j:Nat,(a1.2.2.getD j dF).length<=10000) {cx:Cx} (hcx:cx.base=5):∀(n:Nat) (v3:Int),(0<=v3)/\(ACQ a0 a1)/\(v3<=(a1.2.1.length:Int))->tN ((a1.2.1.length:Int) - v3) < n->Aw.Good Tryz.prog none 9 (bodyPost Tryz.prog Tryz.f21 (RR cx (iv (aH (iX a0 a1) n v3)) [] [])) cx [] (.l zH n::zI) (vX a0 a1 v3):=by
 intro n
 induction n with
 | zero=>intro v3 hi hn;exact absurd hn (eL _)
 | succ n ih =>
  intro v3 hi hn
  refine aS ?_
  have haq:=hi.2.1
  have had:=haq.dims
  have hal:=haq.len
  have hsb:=hsl (tN v3)
  cases h0:(decide ((v3:Int) < (a1.2.1.length:Int))) with
  | true =>
   have q0:=cN h0
   try have hb:=haq.bf (j:=v3) hi.1 (by have _:=cN h0;omega)
   try have hb1:=(fun _=>hb.1) h0
   try have hb2:=(fun _=>hb.2.1) h0
   try have hb3:=(fun _=>hb.2.2.1) h0
   try have hb4:=(fun _=>hb.2.2.2) h0
   let t1:List (St Tryz.prog):=[.d h0,.i v3 (a1.2.1.length),.L eB a1.2.1 v3 0 3,.i v3 (a1.2.2.length),.L jK a1.2.2 v3 0 1,.p (fZ (c:=jY) (fun _=>rfl) (a1.2.2.getD (tN v3) dF)),.c [1,2] (C34 (a1.1.1,a1.1.2) (a1.2.1.getD (tN v3) dF) (by omega) (by omega) ⟨hb1,hb2⟩)]
   cases h1:(((((a1.2.2.getD (tN v3) dF).length:Nat):Int):Int) != (F34 (a1.1.1,a1.1.2) (a1.2.1.getD (tN v3) dF))) with
   | true =>
    have q1:=bne_iff_ne.1 h1
    try have hb:=haq.bf (j:=v3) hi.1 (by have _:=cN h0;omega)
    try have hb1:=(fun _=>hb.1) h0
    try have hb2:=(fun _=>hb.2.1) h0
    try have hb3:=(fun _=>hb.2.2.1) h0
    try have hb4:=(fun _=>hb.2.2.2) h0
    have e:=Eq.refl (iX a0 a1 v3);conv at e=>rhs;simp only [iX,h0,h1,aW]
    rw [aK,e]
    exact rt (t1++[.d h1]) [] [] hcx (by kernel_rfl)
   | false =>
    have q1:=bne_eq_false_iff_eq.1 h1
    try have hb:=haq.bf (j:=v3) hi.1 (by have _:=cN h0;omega)
    try have hb1:=(fun _=>hb.1) h0
    try have hb2:=(fun _=>hb.2.1) h0
    try have hb3:=(fun _=>hb.2.2.1) h0
    try have hb4:=(fun _=>hb.2.2.2) h0
    let t2:List (St Tryz.prog):=(t1++[.d h1,.i v3 (a1.2.2.length),.L jK a1.2.2 v3 0 1,.p (fZ (c:=jY) (fun _=>rfl) (a1.2.2.getD (tN v3) dF)),.c [8] (aM0 (a1.2.2.getD (tN v3) dF) (by omega))])
    cases h2:(pD (a1.2.2.getD (tN v3) dF)) with
    | true =>
     try have hb:=haq.bf (j:=v3) hi.1 (by have _:=cN h0;omega)
     try have hb1:=(fun _=>hb.1) h0
     try have hb2:=(fun _=>hb.2.1) h0
     try have hb3:=(fun _=>hb.2.2.1) h0
     try have hb4:=(fun _=>hb.2.2.2) h0
     have e:=Eq.refl (iX a0 a1 v3);conv at e=>rhs;simp only [iX,h0,h1,h2,aW]
     rw [aK,e]
     exact rt (t2++[.d h2]) [] [] hcx (by kernel_rfl)
    | false =>
     try have hb:=haq.bf (j:=v3) hi.1 (by have _:=cN h0;omega)
     try have hb1:=(fun _=>hb.1) h0
     try have hb2:=(fun _=>hb.2.1) h0
     try have hb3:=(fun _=>hb.2.2.1) h0
     try have hb4:=(fun _=>hb.2.2.2) h0
     have e:=Eq.refl (iX a0 a1 v3);conv at e=>rhs;simp only [iX,h0,h1,h2,aW]
     rw [aI e]
     refine ba (t2++[.d h2]) [] [3,44,45,46] [5] hcx (m:=n) zH (zI) (vX a0 a1 (W (v3+1))) (by kernel_rfl) ?_
     have z0:(W (v3+1))=(v3+1):=aR (by omega) (by omega)
     rw [z0]
     exact ih (v3+1) (by(repeat' apply And.intro)<;>first | omega | assumption | exact pE | exact pF | exact qW hck | exact kW hck hi.2.2.1 (by assumption) (by assumption)) (by omega)
  | false =>
   have q0:=cY h0
   have e:=Eq.refl (iX a0 a1 v3);conv at e=>rhs;simp only [iX,h0,aW]
   rw [aK,e]
   exact rt [.d h0] [] [] hcx (by kernel_rfl)
theorem aR4 (a0:bT)(a1:(List Int×bE)×(List (Int×Int×Bool))×List (List (Int×Int)))(l0:a0.length<=2^63-1)(l1_1_1:a1.1.1.length<=2^63-1)(l1_1_2:a1.1.2.length<=2^63-1)(l1_2_1:a1.2.1.length<=2^63-1)(l1_2_2:a1.2.2.length<=2^63-1)(hsl:∀j:Nat,(a1.2.2.getD j dF).length<=10000) {cx:Cx} (hcx:cx.base=5):∀(n:Nat) (v1:Bool) (v2:Int),(0<=v2)/\(gM a0 (a1.1.1,a1.1.2)=0)/\(FND a1 v1)/\(1<=v2)->tN (16 - v2+1) < n->Aw.Good Tryz.prog none 9 (bodyPost Tryz.prog Tryz.f21 (RR cx (iv (aH (gT a0 a1) n (v1,v2))) [] [])) cx [] (.l aFo n::aFp) (aB0 a0 a1 v1 v2):=by
 intro n
 induction n with
 | zero=>intro v1 v2 hi hn;exact absurd hn (eL _)
 | succ n ih =>
  intro v1 v2 hi hn
  refine aS ?_
  have hck:=hi.2.1
  have hbl:(F33 (a1.1.1,a1.1.2) v2).length<=9216:=by rw [aFb v2 hck];exact(zG v2 hck).2.2
  cases h0:(decide ((v2:Int)<=16)) with
  | true =>
   have q0:=cN h0
   let t1:List (St Tryz.prog):=[.d h0]
   cases h1:(!v1) with
   | true =>
    have e:=Eq.refl (gT a0 a1 (v1,v2));conv at e=>rhs;simp only [gT,h0,h1,aW]
    rw [aI e]
    refine ba (t1++[.d h1,.c [1,2] (C33 (a1.1.1,a1.1.2) v2 (by omega) (by omega) (fun q=>aLj hck q)),.c [3,6] (aRz a1.2.1 (F33 (a1.1.1,a1.1.2) v2) (by omega) (by omega))]) [] [3,6,7] [5] hcx (m:=n) aFo (aFp) (aB0 a0 a1 (lK a1.2.1 (F33 (a1.1.1,a1.1.2) v2)) (W (v2+1))) (by kernel_rfl) ?_
    have z0:(W (v2+1))=(v2+1):=aR (by omega) (by omega)
    rw [z0]
    exact ih (lK a1.2.1 (F33 (a1.1.1,a1.1.2) v2)) (v2+1) (by(repeat' apply And.intro)<;>first | omega | assumption | exact pE | exact pF | exact qW hck | exact kW hck hi.2.2.1 (by assumption) (by assumption)) (by omega)
   | false =>
    let t2:List (St Tryz.prog):=(t1++[.d h1,.d h1])
    cases h2:(((a1.2.2.length:Int):Int) != (a1.2.1.length:Int)) with
    | true =>
     have q2:=bne_iff_ne.1 h2
     have e:=Eq.refl (gT a0 a1 (v1,v2));conv at e=>rhs;simp only [gT,h0,h1,h2,aW]
     rw [aK,e]
     exact rt (t2++[.d h2]) [] [] hcx (by kernel_rfl)
    | false =>
     have q2:=bne_eq_false_iff_eq.1 h2
     have e:=Eq.refl (gT a0 a1 (v1,v2));conv at e=>rhs;simp only [gT,h0,h1,h2,aW]
     rw [aK,e]
     refine en (t2++[.d h2]) [] [3,44,45,46] [5] hcx zH (zI) (vX a0 a1 0) (tN ((a1.2.1.length:Int) - 0)+1) (by kernel_rfl) ?_
     exact aLy a0 a1 l0 l1_1_1 l1_1_2 l1_2_1 l1_2_2 hsl hcx (tN ((a1.2.1.length:Int) - 0)+1) 0 (by(repeat' apply And.intro)<;>first | omega | assumption | exact pE | exact pF | exact qW hck | exact kW hck hi.2.2.1 (by assumption) (by assumption)) (by omega)
  | false =>
   have q0:=cY h0
   let t1:List (St Tryz.prog):=[.d h0]
   cases h1:(!v1) with
   | true =>
    have e:=Eq.refl (gT a0 a1 (v1,v2));conv at e=>rhs;simp only [gT,h0,h1,aW]
    rw [aK,e]
    exact rt (t1++[.d h1]) [] [] hcx (by kernel_rfl)
   | false =>
    let t2:List (St Tryz.prog):=(t1++[.d h1])
    cases h2:(((a1.2.2.length:Int):Int) != (a1.2.1.length:Int)) with
    | true =>
     have q2:=bne_iff_ne.1 h2
     have e:=Eq.refl (gT a0 a1 (v1,v2));conv at e=>rhs;simp only [gT,h0,h1,h2,aW]
     rw [aK,e]
     exact rt (t2++[.d h2]) [] [] hcx (by kernel_rfl)
    | false =>
     have q2:=bne_eq_false_iff_eq.1 h2
     have e:=Eq.refl (gT a0 a1 (v1,v2));conv at e=>rhs;simp only [gT,h0,h1,h2,aW]
     rw [aK,e]
     refine en (t2++[.d h2]) [] [3,44,45,46] [5] hcx zH (zI) (vX a0 a1 0) (tN ((a1.2.1.length:Int) - 0)+1) (by kernel_rfl) ?_
     exact aLy a0 a1 l0 l1_1_1 l1_1_2 l1_2_1 l1_2_2 hsl hcx (tN ((a1.2.1.length:Int) - 0)+1) 0 (by(repeat' apply And.intro)<;>first | omega | assumption | exact pE | exact pF | exact qW hck | exact kW hck hi.2.2.1 (by assumption) (by assumption)) (by omega)
def qX (a0:bT)(a1:(List Int×bE)×(List (Int×Int×Bool))×List (List (Int×Int))):Int :=
 (bif (((tA a0 (a1.1.1,a1.1.2)):Int) != 0) then
  (tA a0 (a1.1.1,a1.1.2))
 else
  (aH (gT a0 a1) (tN (16 - 1+1)+1) (false,1)))
theorem aV8 (a0:bT)(a1:(List Int×bE)×(List (Int×Int×Bool))×List (List (Int×Int)))(l0:a0.length<=2^63-1)(l1_1_1:a1.1.1.length<=2^63-1)(l1_1_2:a1.1.2.length<=2^63-1)(l1_2_1:a1.2.1.length<=2^63-1)(l1_2_2:a1.2.2.length<=2^63-1)(hsl:∀j:Nat,(a1.2.2.getD j dF).length<=10000):Con Tryz.prog 21 [(.s 0 0 a0.length 10),(.a [(.s 1 0 a1.1.1.length 1),(.s 2 0 a1.1.2.length 8),(.s 3 0 a1.2.1.length 3),(.s 4 0 a1.2.2.length 1)])] [(.live false true (flat dI a0)),(.live false true (flat c3 a1.1.1)),(.live false true (flat bZ a1.1.2)),(.live false true (flat eS a1.2.1)),(.live false true (flat jM a1.2.2))] (iv (qX a0 a1)) []:=by
 refine bA Tryz.func21 (by kernel_rfl) fun cx hcx=>?_
 let t0:List (St Tryz.prog):=[.c [0,1,2] (aVt a0 (a1.1.1,a1.1.2) (by omega) (by omega) (by omega))]
 cases h0:(((tA a0 (a1.1.1,a1.1.2)):Int) != 0) with
 | true =>
  have q0:=bne_iff_ne.1 h0
  have e:=Eq.refl (qX a0 a1);conv at e=>rhs;simp only [qX,h0,aW]
  rw [e]
  exact rt (t0++[.d h0]) [] [] hcx (by kernel_rfl)
 | false =>
  have q0:=bne_eq_false_iff_eq.1 h0
  try have hck:gM a0 (a1.1.1,a1.1.2)=0:=by rw [←aG7];exact bne_eq_false_iff_eq.1 h0
  have e:=Eq.refl (qX a0 a1);conv at e=>rhs;simp only [qX,h0,aW]
  rw [e]
  refine en (t0++[.d h0]) [] [3,6,7] [5] hcx aFo (aFp) (aB0 a0 a1 false 1) (tN (16 - 1+1)+1) (by kernel_rfl) ?_
  exact aR4 a0 a1 l0 l1_1_1 l1_1_2 l1_2_1 l1_2_2 hsl hcx (tN (16 - 1+1)+1) false 1 (by(repeat' apply And.intro)<;>first | omega | assumption | exact pE | exact pF | exact qW hck | exact kW hck hi.2.2.1 (by assumption) (by assumption)) (by omega)
noncomputable def aFq:Code:=(aN [1,1,1,1,1,1,0,1,0,1,0,1,1] [0] (aL Tryz.f24) []).1
noncomputable def aFr (m0:Nat):List K:=(aN [1,1,1,1,1,1,0,1,0,1,0,1,1] [m0] (aL Tryz.f24) []).2
def aB1 (a0:bT)(a1:(List Int×bE)×(List (Int×Int×Bool))×List (List (Int×Int)))(v5 v6:Int):LS:=⟨gO 85 [(3,(.p 5 0)),(8,(iv v5)),(9,(iv v6))],[(.live false true (flat dI a0)),(.live false true (flat c3 a1.1.1)),(.live false true (flat bZ a1.1.2)),(.live false true (flat eS a1.2.1)),(.live false true (flat jM a1.2.2)),(.live true false [(.s 1 0 a1.1.1.length 1),(.s 2 0 a1.1.2.length 8),(.s 3 0 a1.2.1.length 3),(.s 4 0 a1.2.2.length 1)])]⟩
def gH (a0:bT)(a1:(List Int×bE)×(List (Int×Int×Bool))×List (List (Int×Int))):Int×Int->(Int×Int)⊕((Int)⊕(Int))
 | (v5,v6) =>
  (bif (decide ((v6:Int) < (((a1.2.2.getD (tN v5) dF).length:Nat):Int))) then
   (bif (!(yY ((a1.2.2.getD (tN v5) dF).getD (tN v6) dF))) then
    (.inr (.inr 1))
   else
    (.inl (v5,(v6+1))))
  else
   (.inr (.inl (v5+1))))
noncomputable def vY:Code:=(aN [1,1,1,1,1,1,0,1] [] (aL Tryz.f24) []).1
noncomputable def vZ:List K:=(aN [1,1,1,1,1,1,0,1] [] (aL Tryz.f24) []).2
def rW (a0:bT)(a1:(List Int×bE)×(List (Int×Int×Bool))×List (List (Int×Int)))(v4:Int):LS:=⟨gO 85 [(3,(.p 5 0)),(8,(iv v4))],[(.live false true (flat dI a0)),(.live false true (flat c3 a1.1.1)),(.live false true (flat bZ a1.1.2)),(.live false true (flat eS a1.2.1)),(.live false true (flat jM a1.2.2)),(.live true false [(.s 1 0 a1.1.1.length 1),(.s 2 0 a1.1.2.length 8),(.s 3 0 a1.2.1.length 3),(.s 4 0 a1.2.2.length 1)])]⟩
def gI (a0:bT)(a1:(List Int×bE)×(List (Int×Int×Bool))×List (List (Int×Int))):Int->(Int)⊕(Int)
 | v4 =>
  (bif (decide ((v4:Int) < (a1.2.2.length:Int))) then
   (bif (((((a1.2.2.getD (tN v4) dF).length:Nat):Int):Int) != (F43 (a1.1.1,a1.1.2) (a1.2.1.getD (tN v4) dF))) then
    (.inr 1)
   else
    (aH (gH a0 a1) (tN ((((a1.2.2.getD (tN v4) dF).length:Nat):Int) - 0)+1) (v4,0)))
  else
   (.inr 0))
noncomputable def aFs:Code:=(aN [1,1,1,1,0,1] [] (aL Tryz.f24) []).1
noncomputable def aFt:List K:=(aN [1,1,1,1,0,1] [] (aL Tryz.f24) []).2
def aB2 (a0:bT)(a1:(List Int×bE)×(List (Int×Int×Bool))×List (List (Int×Int)))(v1:Bool)(v2:Int):LS:=⟨gO 85 [(3,(.p 5 0)),(6,(.v (.bool v1))),(7,(iv v2))],[(.live false true (flat dI a0)),(.live false true (flat c3 a1.1.1)),(.live false true (flat bZ a1.1.2)),(.live false true (flat eS a1.2.1)),(.live false true (flat jM a1.2.2)),(.live true false [(.s 1 0 a1.1.1.length 1),(.s 2 0 a1.1.2.length 8),(.s 3 0 a1.2.1.length 3),(.s 4 0 a1.2.2.length 1)])]⟩
def fU (a0:bT)(a1:(List Int×bE)×(List (Int×Int×Bool))×List (List (Int×Int))):Bool×Int->(Bool×Int)⊕(Int)
 | (v1,v2) =>
  (bif (decide ((v2:Int)<=16)) then
   (bif (!v1) then
    (.inl ((jJ a1.2.1 (F42 (a1.1.1,a1.1.2) v2)),(v2+1)))
   else
    (bif (((a1.2.2.length:Int):Int) != (a1.2.1.length:Int)) then
     (.inr 1)
    else
     (.inr (aH (gI a0 a1) (tN ((a1.2.2.length:Int) - 0)+1) 0))))
  else
   (bif (!v1) then
    (.inr 1)
   else
    (bif (((a1.2.2.length:Int):Int) != (a1.2.1.length:Int)) then
     (.inr 1)
    else
     (.inr (aH (gI a0 a1) (tN ((a1.2.2.length:Int) - 0)+1) 0)))))
theorem aR5 (a0:bT)(a1:(List Int×bE)×(List (Int×Int×Bool))×List (List (Int×Int)))(l0:a0.length<=2^63-1)(l1_1_1:a1.1.1.length<=2^63-1)(l1_1_2:a1.1.2.length<=2^63-1)(l1_2_1:a1.2.1.length<=2^63-1)(l1_2_2:a1.2.2.length<=2^63-1)(hsl:∀j:Nat,(a1.2.2.getD j dF).length<=10000) {cx:Cx} (hcx:cx.base=5)
 (n0:Nat) (g0:∀(v4:Int),(0<=v4)/\(ACQ a0 a1)/\(v4<=(a1.2.2.length:Int))->tN ((a1.2.2.length:Int) - v4) < n0->Aw.Good Tryz.prog none 9 (bodyPost Tryz.prog Tryz.f24 (RR cx (iv (aH (gI a0 a1) n0 v4)) [] [])) cx [] (.l vY n0::vZ) (rW a0 a1 v4)):∀(n:Nat) (v5 v6:Int),(0<=v6)/\(v6<=(((a1.2.2.getD (tN v5) dF).length:Nat):Int))/\((0<=v5))/\((ACQ a0 a1))/\((v5<=(a1.2.2.length:Int)))/\(v5 < (a1.2.2.length:Int))/\(tN ((a1.2.2.length:Int) - v5) < n0+1)->tN ((((a1.2.2.getD (tN v5) dF).length:Nat):Int) - v6) < n->Aw.Good Tryz.prog none 9 (bodyPost Tryz.prog Tryz.f24 (RR cx (iv (aZ (gI a0 a1) n0 (aH (gH a0 a1) n (v5,v6)))) [] [])) cx [] (.l aFq n::aFr n0) (aB1 a0 a1 v5 v6):=by
 intro n
 induction n with
 | zero=>intro v5 v6 hi hn;exact absurd hn (eL _)
 | succ n ih =>
  intro v5 v6 hi hn
  refine aS ?_
  have hsb:=hsl (tN v5)
  have haq:=hi.2.2.2.1
  let t0:List (St Tryz.prog):=[.i v5 (a1.2.2.length),.L jK a1.2.2 v5 0 1,.p (fZ (c:=jY) (fun _=>rfl) (a1.2.2.getD (tN v5) dF))]
  cases h0:(decide ((v6:Int) < (((a1.2.2.getD (tN v5) dF).length:Nat):Int))) with
  | true =>
   have q0:=cN h0
   let t1:List (St Tryz.prog):=(t0++[.d h0,.i v5 (a1.2.2.length),.L jK a1.2.2 v5 0 1,.p (fZ (c:=jY) (fun _=>rfl) (a1.2.2.getD (tN v5) dF)),.i v6 ((a1.2.2.getD (tN v5) dF).length),.L gP (a1.2.2.getD (tN v5) dF) v6 0 2,.c [] (C44 ((a1.2.2.getD (tN v5) dF).getD (tN v6) dF))])
   cases h1:(!(yY ((a1.2.2.getD (tN v5) dF).getD (tN v6) dF))) with
   | true =>
    have e:=Eq.refl (gH a0 a1 (v5,v6));conv at e=>rhs;simp only [gH,h0,h1,aW]
    rw [aK,e]
    exact rt (t1++[.d h1]) [] [] hcx (by kernel_rfl)
   | false =>
    have e:=Eq.refl (gH a0 a1 (v5,v6));conv at e=>rhs;simp only [gH,h0,h1,aW]
    rw [aI e]
    refine ba (t1++[.d h1]) [] [3,8,9] [5] hcx (m:=n) aFq (aFr n0) (aB1 a0 a1 v5 (W (v6+1))) (by kernel_rfl) ?_
    have z0:(W (v6+1))=(v6+1):=aR (by omega) (by omega)
    rw [z0]
    exact ih v5 (v6+1) (by(repeat' apply And.intro)<;>first | omega | assumption | exact pE | exact pF | exact qW hck | exact kW hck hi.2.2.1 (by assumption) (by assumption)) (by omega)
  | false =>
   have q0:=cY h0
   have e:=Eq.refl (gH a0 a1 (v5,v6));conv at e=>rhs;simp only [gH,h0,aW]
   rw [aK,e]
   refine ba (t0++[.d h0]) [] [3,8] [5] hcx (m:=n0) vY (vZ) (rW a0 a1 (W (v5+1))) (by kernel_rfl) ?_
   have z0:(W (v5+1))=(v5+1):=aR (by omega) (by omega)
   rw [z0]
   exact g0 (v5+1) (by(repeat' apply And.intro)<;>first | omega | assumption | exact pE | exact pF | exact qW hck | exact kW hck hi.2.2.1 (by assumption) (by assumption)) (by omega)
theorem aLz (a0:bT)(a1:(List Int×bE)×(List (Int×Int×Bool))×List (List (Int×Int)))(l0:a0.length<=2^63-1)(l1_1_1:a1.1.1.length<=2^63-1)(l1_1_2:a1.1.2.length<=2^63-1)(l1_2_1:a1.2.1.length<=2^63-1)(l1_2_2:a1.2.2.length<=2^63-1)(hsl:∀j:Nat,(a1.2.2.getD j dF).length<=10000) {cx:Cx} (hcx:cx.base=5):∀(n:Nat) (v4:Int),(0<=v4)/\(ACQ a0 a1)/\(v4<=(a1.2.2.length:Int))->tN ((a1.2.2.length:Int) - v4) < n->Aw.Good Tryz.prog none 9 (bodyPost Tryz.prog Tryz.f24 (RR cx (iv (aH (gI a0 a1) n v4)) [] [])) cx [] (.l vY n::vZ) (rW a0 a1 v4):=by
 intro n
 induction n with
 | zero=>intro v4 hi hn;exact absurd hn (eL _)
 | succ n ih =>
  intro v4 hi hn
  refine aS ?_
  have haq:=hi.2.1
  have had:=haq.dims
  have hal:=haq.len
  have hsb:=hsl (tN v4)
  cases h0:(decide ((v4:Int) < (a1.2.2.length:Int))) with
  | true =>
   have q0:=cN h0
   try have hb:=haq.bf (j:=v4) hi.1 (by have _:=cN h0;omega)
   try have hb1:=(fun _=>hb.1) h0
   try have hb2:=(fun _=>hb.2.1) h0
   try have hb3:=(fun _=>hb.2.2.1) h0
   try have hb4:=(fun _=>hb.2.2.2) h0
   let t1:List (St Tryz.prog):=[.d h0,.i v4 (a1.2.2.length),.L jK a1.2.2 v4 0 1,.p (fZ (c:=jY) (fun _=>rfl) (a1.2.2.getD (tN v4) dF)),.i v4 (a1.2.1.length),.L eB a1.2.1 v4 0 3,.c [1,2] (C43 (a1.1.1,a1.1.2) (a1.2.1.getD (tN v4) dF) (by omega) (by omega) ⟨hb1,hb2⟩)]
   cases h1:(((((a1.2.2.getD (tN v4) dF).length:Nat):Int):Int) != (F43 (a1.1.1,a1.1.2) (a1.2.1.getD (tN v4) dF))) with
   | true =>
    have q1:=bne_iff_ne.1 h1
    try have hb:=haq.bf (j:=v4) hi.1 (by have _:=cN h0;omega)
    try have hb1:=(fun _=>hb.1) h0
    try have hb2:=(fun _=>hb.2.1) h0
    try have hb3:=(fun _=>hb.2.2.1) h0
    try have hb4:=(fun _=>hb.2.2.2) h0
    have e:=Eq.refl (gI a0 a1 v4);conv at e=>rhs;simp only [gI,h0,h1,aW]
    rw [aK,e]
    exact rt (t1++[.d h1]) [] [] hcx (by kernel_rfl)
   | false =>
    have q1:=bne_eq_false_iff_eq.1 h1
    try have hb:=haq.bf (j:=v4) hi.1 (by have _:=cN h0;omega)
    try have hb1:=(fun _=>hb.1) h0
    try have hb2:=(fun _=>hb.2.1) h0
    try have hb3:=(fun _=>hb.2.2.1) h0
    try have hb4:=(fun _=>hb.2.2.2) h0
    have e:=Eq.refl (gI a0 a1 v4);conv at e=>rhs;simp only [gI,h0,h1,aW]
    rw [aK,e]
    refine en (t1++[.d h1]) [] [3,8,9] [5] hcx aFq (aFr n) (aB1 a0 a1 v4 0) (tN ((((a1.2.2.getD (tN v4) dF).length:Nat):Int) - 0)+1) (by kernel_rfl) ?_
    exact aR5 a0 a1 l0 l1_1_1 l1_1_2 l1_2_1 l1_2_2 hsl hcx n ih (tN ((((a1.2.2.getD (tN v4) dF).length:Nat):Int) - 0)+1) v4 0 (by(repeat' apply And.intro)<;>first | omega | assumption | exact pE | exact pF | exact qW hck | exact kW hck hi.2.2.1 (by assumption) (by assumption)) (by omega)
  | false =>
   have q0:=cY h0
   have e:=Eq.refl (gI a0 a1 v4);conv at e=>rhs;simp only [gI,h0,aW]
   rw [aK,e]
   exact rt [.d h0] [] [] hcx (by kernel_rfl)
theorem aR6 (a0:bT)(a1:(List Int×bE)×(List (Int×Int×Bool))×List (List (Int×Int)))(l0:a0.length<=2^63-1)(l1_1_1:a1.1.1.length<=2^63-1)(l1_1_2:a1.1.2.length<=2^63-1)(l1_2_1:a1.2.1.length<=2^63-1)(l1_2_2:a1.2.2.length<=2^63-1)(hsl:∀j:Nat,(a1.2.2.getD j dF).length<=10000) {cx:Cx} (hcx:cx.base=5):∀(n:Nat) (v1:Bool) (v2:Int),(0<=v2)/\(gM a0 (a1.1.1,a1.1.2)=0)/\(FND a1 v1)/\(1<=v2)->tN (16 - v2+1) < n->Aw.Good Tryz.prog none 9 (bodyPost Tryz.prog Tryz.f24 (RR cx (iv (aH (fU a0 a1) n (v1,v2))) [] [])) cx [] (.l aFs n::aFt) (aB2 a0 a1 v1 v2):=by
 intro n
 induction n with
 | zero=>intro v1 v2 hi hn;exact absurd hn (eL _)
 | succ n ih =>
  intro v1 v2 hi hn
  refine aS ?_
  have hck:=hi.2.1
  have hbl:=(zG v2 hck).2.2
  cases h0:(decide ((v2:Int)<=16)) with
  | true =>
   have q0:=cN h0
   let t1:List (St Tryz.prog):=[.d h0]
   cases h1:(!v1) with
   | true =>
    have e:=Eq.refl (fU a0 a1 (v1,v2));conv at e=>rhs;simp only [fU,h0,h1,aW]
    rw [aI e]
    refine ba (t1++[.d h1,.c [1,2] (C42 (a1.1.1,a1.1.2) v2 (by omega) (by omega) (fun q=>aLj hck q)),.c [3,6] (aRl a1.2.1 (F42 (a1.1.1,a1.1.2) v2) (by omega) (by omega))]) [] [3,6,7] [5] hcx (m:=n) aFs (aFt) (aB2 a0 a1 (jJ a1.2.1 (F42 (a1.1.1,a1.1.2) v2)) (W (v2+1))) (by kernel_rfl) ?_
    have z0:(W (v2+1))=(v2+1):=aR (by omega) (by omega)
    rw [z0]
    exact ih (jJ a1.2.1 (F42 (a1.1.1,a1.1.2) v2)) (v2+1) (by(repeat' apply And.intro)<;>first | omega | assumption | exact pE | exact pF | exact qW hck | exact kW hck hi.2.2.1 (by assumption) (by assumption)) (by omega)
   | false =>
    let t2:List (St Tryz.prog):=(t1++[.d h1,.d h1])
    cases h2:(((a1.2.2.length:Int):Int) != (a1.2.1.length:Int)) with
    | true =>
     have q2:=bne_iff_ne.1 h2
     have e:=Eq.refl (fU a0 a1 (v1,v2));conv at e=>rhs;simp only [fU,h0,h1,h2,aW]
     rw [aK,e]
     exact rt (t2++[.d h2]) [] [] hcx (by kernel_rfl)
    | false =>
     have q2:=bne_eq_false_iff_eq.1 h2
     have e:=Eq.refl (fU a0 a1 (v1,v2));conv at e=>rhs;simp only [fU,h0,h1,h2,aW]
     rw [aK,e]
     refine en (t2++[.d h2]) [] [3,8] [5] hcx vY (vZ) (rW a0 a1 0) (tN ((a1.2.2.length:Int) - 0)+1) (by kernel_rfl) ?_
     exact aLz a0 a1 l0 l1_1_1 l1_1_2 l1_2_1 l1_2_2 hsl hcx (tN ((a1.2.2.length:Int) - 0)+1) 0 (by(repeat' apply And.intro)<;>first | omega | assumption | exact pE | exact pF | exact qW hck | exact kW hck hi.2.2.1 (by assumption) (by assumption)) (by omega)
  | false =>
   have q0:=cY h0
   let t1:List (St Tryz.prog):=[.d h0]
   cases h1:(!v1) with
   | true =>
    have e:=Eq.refl (fU a0 a1 (v1,v2));conv at e=>rhs;simp only [fU,h0,h1,aW]
    rw [aK,e]
    exact rt (t1++[.d h1]) [] [] hcx (by kernel_rfl)
   | false =>
    let t2:List (St Tryz.prog):=(t1++[.d h1])
    cases h2:(((a1.2.2.length:Int):Int) != (a1.2.1.length:Int)) with
    | true =>
     have q2:=bne_iff_ne.1 h2
     have e:=Eq.refl (fU a0 a1 (v1,v2));conv at e=>rhs;simp only [fU,h0,h1,h2,aW]
     rw [aK,e]
     exact rt (t2++[.d h2]) [] [] hcx (by kernel_rfl)
    | false =>
     have q2:=bne_eq_false_iff_eq.1 h2
     have e:=Eq.refl (fU a0 a1 (v1,v2));conv at e=>rhs;simp only [fU,h0,h1,h2,aW]
     rw [aK,e]
     refine en (t2++[.d h2]) [] [3,8] [5] hcx vY (vZ) (rW a0 a1 0) (tN ((a1.2.2.length:Int) - 0)+1) (by kernel_rfl) ?_
     exact aLz a0 a1 l0 l1_1_1 l1_1_2 l1_2_1 l1_2_2 hsl hcx (tN ((a1.2.2.length:Int) - 0)+1) 0 (by(repeat' apply And.intro)<;>first | omega | assumption | exact pE | exact pF | exact qW hck | exact kW hck hi.2.2.1 (by assumption) (by assumption)) (by omega)
def fX (a0:bT)(a1:(List Int×bE)×(List (Int×Int×Bool))×List (List (Int×Int))):Int :=
 (bif (((gM a0 (a1.1.1,a1.1.2)):Int) != 0) then
  (gM a0 (a1.1.1,a1.1.2))
 else
  (aH (fU a0 a1) (tN (16 - 1+1)+1) (false,1)))
theorem aV9 (a0:bT)(a1:(List Int×bE)×(List (Int×Int×Bool))×List (List (Int×Int)))(l0:a0.length<=2^63-1)(l1_1_1:a1.1.1.length<=2^63-1)(l1_1_2:a1.1.2.length<=2^63-1)(l1_2_1:a1.2.1.length<=2^63-1)(l1_2_2:a1.2.2.length<=2^63-1)(hsl:∀j:Nat,(a1.2.2.getD j dF).length<=10000):Con Tryz.prog 24 [(.s 0 0 a0.length 10),(.a [(.s 1 0 a1.1.1.length 1),(.s 2 0 a1.1.2.length 8),(.s 3 0 a1.2.1.length 3),(.s 4 0 a1.2.2.length 1)])] [(.live false true (flat dI a0)),(.live false true (flat c3 a1.1.1)),(.live false true (flat bZ a1.1.2)),(.live false true (flat eS a1.2.1)),(.live false true (flat jM a1.2.2))] (iv (fX a0 a1)) []:=by
 refine bA Tryz.func24 (by kernel_rfl) fun cx hcx=>?_
 let t0:List (St Tryz.prog):=[.c [0,1,2] (aVu a0 (a1.1.1,a1.1.2) (by omega) (by omega) (by omega))]
 cases h0:(((gM a0 (a1.1.1,a1.1.2)):Int) != 0) with
 | true =>
  have q0:=bne_iff_ne.1 h0
  have e:=Eq.refl (fX a0 a1);conv at e=>rhs;simp only [fX,h0,aW]
  rw [e]
  exact rt (t0++[.d h0]) [] [] hcx (by kernel_rfl)
 | false =>
  have q0:=bne_eq_false_iff_eq.1 h0
  try have hck:gM a0 (a1.1.1,a1.1.2)=0:=bne_eq_false_iff_eq.1 h0
  have e:=Eq.refl (fX a0 a1);conv at e=>rhs;simp only [fX,h0,aW]
  rw [e]
  refine en (t0++[.d h0]) [] [3,6,7] [5] hcx aFs (aFt) (aB2 a0 a1 false 1) (tN (16 - 1+1)+1) (by kernel_rfl) ?_
  exact aR6 a0 a1 l0 l1_1_1 l1_1_2 l1_2_1 l1_2_2 hsl hcx (tN (16 - 1+1)+1) false 1 (by(repeat' apply And.intro)<;>first | omega | assumption | exact pE | exact pF | exact qW hck | exact kW hck hi.2.2.1 (by assumption) (by assumption)) (by omega)
def sK (a0:bT)(a1:List (List (Int×Int))):(List (Int×Int))×(List (Int×Int))×Zt->((List (Int×Int))×(List (Int×Int))×Zt)⊕(((List (Int×Int))×Int)⊕((List (Int×Int))×Int))
 | (v10,v11,v12,v13,v14) =>
  (bif (decide ((v14:Int) < (a0.length:Int))) then
   (bif (((F38 ((a1.getD (tN v14) dF).getD (tN v12) dF) (a0.getD (tN v14) dF).2).2:Int) != 0) then
    (.inr (.inr (([]:List (Int×Int)),(F38 ((a1.getD (tN v14) dF).getD (tN v12) dF) (a0.getD (tN v14) dF).2).2)))
   else
    (.inl (v10,(v11++[(F38 ((a1.getD (tN v14) dF).getD (tN v12) dF) (a0.getD (tN v14) dF).2).1]),v12,v13,(v14+1))))
  else
   (bif (((aAs v11).2:Int) != 0) then
    (.inr (.inr (([]:List (Int×Int)),(aAs v11).2)))
   else
    (.inr (.inl ((v10++[(aAs v11).1]),(v13+1))))))
def xP (a0:bT)(a1:List (List (Int×Int))):(List (Int×Int))×Int->((List (Int×Int))×Int)⊕((List (Int×Int))×Int)
 | (v8,v9) =>
  (bif (decide ((v9:Int) < (a0.length:Int))) then
   (aH (sK a0 a1) (tN ((a0.length:Int) - 0)+1) (v8,([]:List (Int×Int)),v9,v9,0))
  else
   (.inr (v8,0)))
def zJ (a0:bT)(a1:List (List (Int×Int))):(List (Int×Int))×Int :=
 (aH (xP a0 a1) (tN ((a0.length:Int) - 0)+1) (([]:List (Int×Int)),0))
def kX (a0:bT)(a1:List (List (Int×Int))):(List (Int×Int))×(List (Int×Int))×Int×Int->((List (Int×Int))×(List (Int×Int))×Int×Int)⊕(((List (Int×Int))×Int)⊕((List (Int×Int))×Int))
 | (v10,v11,v12,v13) =>
  (bif (decide ((v13:Int) < (a0.length:Int))) then
   (bif (((F45 ((a1.getD (tN v13) dF).getD (tN v12) dF) (a0.getD (tN v13) dF).2).2:Int) != 0) then
    (.inr (.inr (([]:List (Int×Int)),(F45 ((a1.getD (tN v13) dF).getD (tN v12) dF) (a0.getD (tN v13) dF).2).2)))
   else
    (.inl (v10,(v11++[(F45 ((a1.getD (tN v13) dF).getD (tN v12) dF) (a0.getD (tN v13) dF).2).1]),v12,(v13+1))))
  else
   (bif (((aAu v11).2:Int) != 0) then
    (.inr (.inr (([]:List (Int×Int)),(aAu v11).2)))
   else
    (.inr (.inl ((v10++[(aAu v11).1]),(v12+1))))))
def pG (a0:bT)(a1:List (List (Int×Int))):(List (Int×Int))×Int->((List (Int×Int))×Int)⊕((List (Int×Int))×Int)
 | (v8,v9) =>
  (bif (decide ((v9:Int) < (a0.length:Int))) then
   (aH (kX a0 a1) (tN ((a0.length:Int) - 0)+1) (v8,([]:List (Int×Int)),v9,0))
  else
   (.inr (v8,0)))
def sL (a0:bT)(a1:List (List (Int×Int))):(List (Int×Int))×Int :=
 (aH (pG a0 a1) (tN ((a0.length:Int) - 0)+1) (([]:List (Int×Int)),0))
theorem aC9 {T T' R:Type} [Inhabited R] {S:T->T⊕R} {S':T'->T'⊕R} (rel:T->T'->Prop)(h:∀x y,rel x y->(∃a b,S x=.inl a/\S' y=.inl b/\rel a b)\/(∃r,S x=.inr r/\S' y=.inr r)) :
 ∀(n:Nat) (x:T) (y:T'),rel x y->aH S n x=aH S' n y
 | 0,_,_,_=>rfl
 | n+1,x,y,hxy=>by
  rcases h x y hxy with⟨a,b,e1,e2,e3⟩ | ⟨r,e1,e2⟩
  ·rw [aI e1,aI e2];exact aC9 rel h n a b e3
  ·rw [aQ e1,aQ e2]
theorem kY {T R:Type} [Inhabited R] {S:T->T⊕R} (μ:T->Nat)(Pr:T->Prop)(Qr:R->Prop)(h:∀x,Pr x->(∃a,S x=.inl a/\Pr a/\μ a < μ x)\/(∃r,S x=.inr r/\Qr r)) :
 ∀(n:Nat) (x:T),Pr x->μ x < n->Qr (aH S n x)
 | 0,_,_,hn=>absurd hn (eL _)
 | n+1,x,hx,hn=>by
  rcases h x hx with⟨a,e1,e2,e3⟩ | ⟨r,e1,e2⟩
  ·rw [aI e1];exact kY μ Pr Qr h n a e2 (by omega)
  ·rw [aQ e1];exact e2
theorem aHn (l:gU)(o:tE)(v:Int):∀(d k n m:Nat),d=(o.2.2.getD (tN v) dF).length - k->k<=(o.2.2.getD (tN v) dF).length->d < n->d < m ->
 aH (gH l o) n (v,(k:Int))=bif decide (aH (eG (o.2.2.getD (tN v) dF)) m (k:Int)≥0) then .inr 1 else .inl (v+1)
 | 0,k,n,m,hd,hk,hn,hm=>by
  obtain⟨n,rfl⟩:∃q,n=q+1:=⟨n - 1,by omega⟩
  obtain⟨m,rfl⟩:∃q,m=q+1:=⟨m - 1,by omega⟩
  have e1:gH l o (v,(k:Int))=.inr (.inl (v+1)):=by
   simp only [gH]
   rw [dA (by omega),cond_false]
  have e2:eG (o.2.2.getD (tN v) dF) (k:Int)=.inr (-1):=by
   simp only [eG]
   rw [dA (by omega),cond_false]
  rw [aQ e1,aQ e2];rfl
 | d+1,k,n,m,hd,hk,hn,hm=>by
  obtain⟨n,rfl⟩:∃q,n=q+1:=⟨n - 1,by omega⟩
  obtain⟨m,rfl⟩:∃q,m=q+1:=⟨m - 1,by omega⟩
  have e1:gH l o (v,(k:Int))=bif (!(yY ((o.2.2.getD (tN v) dF).getD k dF))) then .inr (.inr 1) else .inl (v,((k+1:Nat):Int)):=by
   simp only [gH,fT]
   rw [cI (by omega),cond_true];rfl
  have e2:eG (o.2.2.getD (tN v) dF) (k:Int)=bif (!(yY ((o.2.2.getD (tN v) dF).getD k dF))) then .inr (k:Int) else .inl ((k+1:Nat):Int):=by
   simp only [eG,fT]
   rw [cI (by omega),cond_true];rfl
  cases hv:(!(yY ((o.2.2.getD (tN v) dF).getD k dF))) with
  | true =>
   rw [hv,cond_true] at e1 e2
   rw [aQ e1,aQ e2,cI (by omega)];rfl
  | false =>
   rw [hv,cond_false] at e1 e2
   rw [aI e1,aI e2]
   exact aHn l o v d (k+1) n m (by omega) (by omega) (by omega) (by omega)
theorem aT8 (l:gU)(o:tE)(hl:o.2.2.length=o.2.1.length):iX l o=gI l o:=by
 funext v
 simp only [iX,gI]
 rw [hl]
 have e:=aHn l o v _ 0 (tN ((((o.2.2.getD (tN v) dF).length:Nat):Int) - 0)+1) (tN ((((o.2.2.getD (tN v) dF).length:Nat):Int) - 0)+1) rfl (Nat.zero_le _) (by omega) (by omega)
 rw [show(((0:Nat):Int))=0 from rfl] at e
 rw [e];rfl
theorem uM (l:gU)(o:tE):qX l o=fX l o:=by
 unfold qX fX
 rw [aG7]
 cases h0:((gM l (o.1.1,o.1.2):Int) != 0) with
 | true=>rfl
 | false =>
  have hc:=bne_eq_false_iff_eq.1 h0
  have e:gT l o=fU l o:=by
   funext ⟨v1,v2⟩
   simp only [gT,fU]
   rw [aLx,aFb (t:=(o.1.1,o.1.2)) v2 hc]
   cases h1:(((o.2.2.length:Int):Int) != (o.2.1.length:Int)) with
   | true=>rfl
   | false =>
    have hl:o.2.2.length=o.2.1.length:=by have:=bne_eq_false_iff_eq.1 h1;omega
    rw [aT8 l o hl,hl]
  rw [e]
def GD (o:tE)(j:Nat):Prop:=(((o.2.2.getD j dF).length:Nat):Int)=F43 (o.1.1,o.1.2) (o.2.1.getD j dF)/\∀i,i < (o.2.2.getD j dF).length->yY ((o.2.2.getD j dF).getD i dF)=true
theorem aR7 (l:gU)(o:tE)(v:Int):aH (gH l o) (tN ((((o.2.2.getD (tN v) dF).length:Nat):Int) - 0)+1) (v,0)=.inr 1 \/
 (aH (gH l o) (tN ((((o.2.2.getD (tN v) dF).length:Nat):Int) - 0)+1) (v,0)=.inl (v+1)/\∀i,i < (o.2.2.getD (tN v) dF).length->yY ((o.2.2.getD (tN v) dF).getD i dF)=true):=by
 refine kY (S:=gH l o) (fun x:Int×Int=>tN ((((o.2.2.getD (tN v) dF).length:Nat):Int) - x.2)) (fun x:Int×Int=>x.1=v/\0<=x.2/\x.2<=(((o.2.2.getD (tN v) dF).length:Nat):Int)/\∀i,i < tN x.2->yY ((o.2.2.getD (tN v) dF).getD i dF)=true)
  (fun r:Int⊕Int=>r=.inr 1\/(r=.inl (v+1)/\∀i,i < (o.2.2.getD (tN v) dF).length->yY ((o.2.2.getD (tN v) dF).getD i dF)=true)) ?_ _ _ ⟨rfl,Int.le_refl _,by simp only;omega,fun i hi=>absurd hi (by simp)⟩ (by simp only;omega)
 rintro ⟨a,b⟩ ⟨rfl,h1,h2,h3⟩
 simp only at h1 h2 h3
 simp only [gH]
 by_cases hb:b < (((o.2.2.getD (tN a) dF).length:Nat):Int)
 ·rw [cI hb,cond_true]
  cases hv:yY ((o.2.2.getD (tN a) dF).getD (tN b) dF) with
  | false=>exact .inr ⟨_,rfl,.inl rfl⟩
  | true =>
   refine .inl ⟨_,rfl,⟨rfl,by simp only;omega,by simp only;omega,fun i hi=>?_⟩,by simp only;omega⟩
   simp only at hi
   by_cases he:i=tN b
   ·rw [he];exact hv
   ·exact h3 i (by omega)
 ·rw [dA hb,cond_false]
  exact .inr ⟨_,rfl,.inr ⟨rfl,fun i hi=>h3 i (by omega)⟩⟩
theorem aT9 {l:gU} {o:tE} (h:aH (gI l o) (tN ((o.2.2.length:Int) - 0)+1) 0=0):∀j,j < o.2.2.length->GD o j:=by
 refine kY (S:=gI l o) (fun v=>tN ((o.2.2.length:Int) - v)) (fun v=>0<=v/\v<=(o.2.2.length:Int)/\∀j,j < tN v->GD o j) (fun r=>r=0->∀j,j < o.2.2.length->GD o j) ?_ _ _ ⟨Int.le_refl _,by omega,fun j hj=>absurd hj (by simp)⟩ (by omega) h
 rintro v ⟨h1,h2,h3⟩
 simp only [gI]
 by_cases hv:v < (o.2.2.length:Int)
 ·rw [cI hv,cond_true]
  cases hc:(((((o.2.2.getD (tN v) dF).length:Nat):Int):Int) != (F43 (o.1.1,o.1.2) (o.2.1.getD (tN v) dF))) with
  | true=>exact .inr ⟨_,rfl,fun e=>by cases e⟩
  | false =>
   rw [cond_false]
   rcases aR7 l o v with e | ⟨e,hg⟩
   ·rw [e];exact .inr ⟨_,rfl,fun e=>by cases e⟩
   ·rw [e]
    refine .inl ⟨_,rfl,⟨by omega,by omega,fun j hj=>?_⟩,by omega⟩
    by_cases he:j=tN v
    ·rw [he];exact⟨bne_eq_false_iff_eq.1 hc,hg⟩
    ·exact h3 j (by omega)
 ·rw [dA hv,cond_false]
  exact .inr ⟨_,rfl,fun _ j hj=>h3 j (by omega)⟩
theorem aJq {l:gU} {o:tE} (h:fX l o=0):ACQ l o/\∀j,j < o.2.2.length->GD o j:=by
 unfold fX at h
 cases h0:((gM l (o.1.1,o.1.2):Int) != 0) with
 | true=>rw [h0,cond_true] at h;rw [h] at h0;cases h0
 | false =>
  rw [h0,cond_false] at h
  have hc:=bne_eq_false_iff_eq.1 h0
  refine kY (S:=fU l o) (fun x=>tN (17 - x.2)) (fun x=>FND o x.1) (fun r=>r=0->ACQ l o/\∀j,j < o.2.2.length->GD o j) ?_ _ _ pE (by simp only;omega) h
  rintro ⟨v1,v2⟩ hf
  simp only at hf
  simp only [fU]
  have key:(!v1)=false->∃r,(bif (((o.2.2.length:Int):Int) != (o.2.1.length:Int)) then(.inr 1) else(.inr (aH (gI l o) (tN ((o.2.2.length:Int) - 0)+1) 0)):(Bool×Int)⊕Int)=.inr r/\(r=0->ACQ l o/\∀j,j < o.2.2.length->GD o j):=fun hb=>by
   cases hl:(((o.2.2.length:Int):Int) != (o.2.1.length:Int)) with
   | true=>exact⟨1,rfl,fun e=>by cases e⟩
   | false=>exact⟨_,rfl,fun e=>⟨kW hc hf hb hl,aT9 e⟩⟩
  by_cases h2:v2<=16
  ·rw [cI h2,cond_true]
   cases hb:(!v1) with
   | true=>exact .inl ⟨_,rfl,pF,by simp only;omega⟩
   | false=>exact .inr (key hb)
  ·rw [dA h2,cond_false]
   cases hb:(!v1) with
   | true=>exact .inr ⟨1,rfl,fun e=>by cases e⟩
   | false=>exact .inr (key hb)
theorem aR8 {t:TR} {b:BLK} (h1:0<=(t.2.getD (tN b.1) dF).1/\(t.2.getD (tN b.1) dF).1<=(t.2.getD (tN b.1) dF).2.1/\(t.2.getD (tN b.1) dF).2.1<=96)
 (h2:0<=(t.2.getD (tN b.2.1) dF).1/\(t.2.getD (tN b.2.1) dF).1<=(t.2.getD (tN b.2.1) dF).2.1/\(t.2.getD (tN b.2.1) dF).2.1<=96) :
 F43 t b=bif b.2.2 then 1 else((t.2.getD (tN b.1) dF).2.1 - (t.2.getD (tN b.1) dF).1)*((t.2.getD (tN b.2.1) dF).2.1 - (t.2.getD (tN b.2.1) dF).1):=by
 unfold F43
 have m:=Int.mul_le_mul (a:=(t.2.getD (tN b.1) dF).2.1 - (t.2.getD (tN b.1) dF).1) (b:=(t.2.getD (tN b.2.1) dF).2.1 - (t.2.getD (tN b.2.1) dF).1) (c:=96) (d:=96) (by omega) (by omega) (by omega) (by omega)
 have m0:0<=((t.2.getD (tN b.1) dF).2.1 - (t.2.getD (tN b.1) dF).1)*((t.2.getD (tN b.2.1) dF).2.1 - (t.2.getD (tN b.2.1) dF).1):=Int.mul_nonneg (by omega) (by omega)
 rw [aR (n:=(t.2.getD (tN b.1) dF).2.1 - (t.2.getD (tN b.1) dF).1) (by omega) (by omega),aR (n:=(t.2.getD (tN b.2.1) dF).2.1 - (t.2.getD (tN b.2.1) dF).1) (by omega) (by omega),aR (by omega) (by omega)]
theorem aJr {l:gU} {o:tE} (h:fX l o=0)(hsl:∀j:Nat,(o.2.2.getD j dF).length<=10000):EntOK l.length o:=by
 obtain⟨ha,hg⟩:=aJq h
 obtain⟨d1,d2,d3,d4,d5⟩:=ha.dims
 refine⟨⟨by omega,by omega⟩,fun hb=>?_,by omega,by rw [fT];exact d4,⟨ha.len,d5⟩,fun j=>by have:=hsl j;omega,fun j h0 h1=>?_⟩
 ·rcases Nat.eq_zero_or_pos l.length with e | e
  ·exfalso
   obtain⟨hv,leaf,h1,_,e1⟩:=uH ha.chk
   rcases aE5 l h1 with⟨_,e2⟩ | ⟨hh,H⟩
   ·obtain⟨sep,e3⟩:=ha.blk
    rw [show o.1=([],[]) from e1.trans e2] at e3
    rw [show F42 ([],[]) sep=[] from rfl] at e3
    rw [e3] at hb;exact absurd hb (Nat.lt_irrefl _)
   ·have:=cG H;omega
  ·omega
 ·obtain⟨b1,b2,b3,b4⟩:=ha.bf h0 h1
  refine⟨b1,b2,b3,b4,?_⟩
  have:=(hg (tN j) (by have:=ha.len;omega)).1
  rw [this]
  exact aR8 (t:=(o.1.1,o.1.2)) ⟨b3.1,b3.2.1,by simp only;omega⟩ ⟨b4.1,b4.2.1,by simp only;omega⟩
theorem aUa {a:Int×Int} (h:yY a=true):vs a:=by
 unfold yY at h
 by_cases h1:a.1≥-1099511627776
 ·rw [cI h1,cond_true] at h
  by_cases h2:a.1<=a.2
  ·rw [cI h2,cond_true] at h
   exact⟨h1,h2,cN h⟩
  ·rw [dA h2,cond_false] at h;cases h
 ·rw [dA h1,cond_false] at h;cases h
theorem aHo:vs ((0,0):Int×Int):=by unfold vs;omega
theorem aHp {α:Type} [Inhabited α] {l:List α} {k i:Nat} {v d:α}:(l.set k v).getD i d=if i=k/\k < l.length then v else l.getD i d:=by
 rw [fP,List.getElem?_set]
 by_cases h:k=i
 ·subst h
  rw [if_pos rfl]
  by_cases h2:k < l.length
  ·rw [if_pos h2,if_pos ⟨rfl,h2⟩];rfl
  ·rw [if_neg h2,if_neg (fun e=>h2 e.2),fP,List.getElem?_eq_none (by omega)]
 ·rw [if_neg h,if_neg (fun e=>h e.1.symm),fP]
structure EV (n:Nat) (t:List (List (Int×Int))):Prop where
 tl:TL n t n
 val:∀i j,vs ((t.getD i []).getD j dF)
theorem EV.put {n:Nat} {t:List (List (Int×Int))} (h:EV n t) {k q:Nat} {v:Int×Int} (hk:k < n)(hv:vs v):EV n (t.set k ((t.getD k []).set q v)):=by
 refine⟨h.tl.set (by rw [List.length_set];exact h.tl.2 k hk) k,fun i j=>?_⟩
 rw [aHp]
 split
 ·rw [aHp]
  split
  ·exact hv
  ·exact h.val k j
 ·exact h.val i j
theorem EV.rep (n:Nat):EV n (List.replicate n (List.replicate n ((0,0):Int×Int))):=by
 refine⟨⟨by simp,fun j hj=>?_⟩,fun i j=>?_⟩
 ·rw [fP,List.getElem?_replicate,if_pos hj];simp
 ·have e:(List.replicate n (List.replicate n ((0,0):Int×Int))).getD i []=List.replicate n (0,0)\/(List.replicate n (List.replicate n ((0,0):Int×Int))).getD i []=[]:=by
   rw [fP,List.getElem?_replicate]
   split
   ·exact .inl rfl
   ·exact .inr rfl
  rcases e with e | e
  ·rw [e,fP,List.getElem?_replicate]
   split
   ·exact aHo
   ·exact aHo
  ·rw [e];exact aHo
structure EOV (l:gU) (o:tE):Prop where
 ok:EntOK l.length o
 vo:∀i j:Nat,vs ((o.2.2.getD i dF).getD j dF)
theorem aJs {l:gU} {o:tE} (h:fX l o=0)(hsl:∀j:Nat,(o.2.2.getD j dF).length<=10000):EOV l o:=by
 refine⟨aJr h hsl,fun i j=>?_⟩
 obtain⟨ha,hg⟩:=aJq h
 by_cases hi:i < o.2.2.length
 ·by_cases hj:j < (o.2.2.getD i dF).length
  ·exact aUa ((hg i hi).2 j hj)
  ·rw [fP (l:=o.2.2.getD i dF),List.getElem?_eq_none (by omega)];exact aHo
 ·rw [fP (l:=o.2.2),List.getElem?_eq_none (by omega)]
  exact aHo
theorem aSy {l:gU} {o:tE} (he:EOV l o) {j p lo hi i s b0 b1 c0 c1 s2 k c2 c3 c4 c5 c6 c7 d2 d3 d4 d5 d6 d7 e2 e3 e4 e5 e6 e7:Int} {far:Bool} (h0:0 < l.length)(hc:0<=c0)(hk:k=o.1.1.getD (tN p) dF)(hs2:s2=c1 - c0)(hfar:far=(o.2.1.getD (tN j) dF).2.2) :
 ∀(d n m:Nat) (t:List (List (Int×Int))) (a q:Int),q+d=c1->c0<=q->d < n->d < m->EV l.length t->∃t2 a2,EV l.length t2 /\
   aH (nF l.length o) n (t,j,a,k,j,lo,hi,s,i,c0,c1,s2,q - c0,b0,b1,far,c0,c1,c2,c3,c4,c5,c6,c7)=.inl (t2,j,a2,j,lo,hi,s,i+1,b0,b1,far,c0,c1,c2,c3,c4,c5,c6,c7) /\
   aH (hX l o) m (t,j,a,p,q,lo,hi,d2,d3,d4,d5,d6,d7,c0,c1,e2,e3,e4,e5,e6,e7)=.inl (t2,j,a2,p+1,lo,hi,d2,d3,d4,d5,d6,d7,c0,c1,e2,e3,e4,e5,e6,e7)
 | 0,n,m,t,a,q,hq,hcq,hn,hm,ht=>by
  obtain⟨n,rfl⟩:∃x,n=x+1:=⟨n - 1,by omega⟩
  obtain⟨m,rfl⟩:∃x,m=x+1:=⟨m - 1,by omega⟩
  refine⟨t,a,ht,?_,?_⟩
  ·refine aQ ?_
   simp only [nF]
   rw [dA (by omega),cond_false]
  ·refine aQ ?_
   simp only [hX]
   rw [dA (by omega),cond_false]
 | d+1,n,m,t,a,q,hq,hcq,hn,hm,ht=>by
  obtain⟨n,rfl⟩:∃x,n=x+1:=⟨n - 1,by omega⟩
  obtain⟨m,rfl⟩:∃x,m=x+1:=⟨m - 1,by omega⟩
  have hkr:=he.ok.ord.atD (by omega) (tN p)
  rw [←hk,fT] at hkr
  have ht2:EV l.length (t.set (tN k) ((t.getD (tN k) []).set (tN (o.1.1.getD (tN q) dF)) ((o.2.2.getD (tN j) dF).getD (tN a) dF))):=ht.put (by omega) (he.vo _ _)
  have e1:nF l.length o (t,j,a,k,j,lo,hi,s,i,c0,c1,s2,q - c0,b0,b1,far,c0,c1,c2,c3,c4,c5,c6,c7) =
   .inl (t.set (tN k) ((t.getD (tN k) []).set (tN (o.1.1.getD (tN q) dF)) ((o.2.2.getD (tN j) dF).getD (tN a) dF)),j,(bif !far then W (a+1) else a),k,j,lo,hi,s,i,c0,c1,s2,q+1 - c0,b0,b1,far,c0,c1,c2,c3,c4,c5,c6,c7):=by
   simp only [nF,sI,nV]
   rw [cI (by omega),cond_true,show tN c0+tN (q - c0)=tN q from by omega,show q - c0+1=q+1 - c0 from by omega]
   cases far<;>rfl
  have e2:hX l o (t,j,a,p,q,lo,hi,d2,d3,d4,d5,d6,d7,c0,c1,e2,e3,e4,e5,e6,e7) =
   .inl (t.set (tN k) ((t.getD (tN k) []).set (tN (o.1.1.getD (tN q) dF)) ((o.2.2.getD (tN j) dF).getD (tN a) dF)),j,(bif !far then W (a+1) else a),p,q+1,lo,hi,d2,d3,d4,d5,d6,d7,c0,c1,e2,e3,e4,e5,e6,e7):=by
   simp only [hX,mO,jW]
   rw [cI (by omega),cond_true,←hfar,←hk]
   cases far<;>rfl
  rw [aI e1,aI e2]
  exact aSy he h0 hc hk hs2 hfar d n m _ _ (q+1) (by omega) (by omega) (by omega) (by omega) ht2
theorem aSz {l:gU} {o:tE} (he:EOV l o) {j lo hi s b0 b1 c0 c1 c2 c3 c4 c5 c6 c7 d2 d3 d4 d5 d6 d7 e2 e3 e4 e5 e6 e7:Int} {far:Bool} (h0:0 < l.length)(hc:0<=c0/\c0<=c1)(hlo:0<=lo)(hs:s=hi - lo)(hfar:far=(o.2.1.getD (tN j) dF).2.2) :
 ∀(d n m:Nat) (t:List (List (Int×Int))) (a p:Int),p+d=hi->lo<=p->d < n->d < m->EV l.length t->∃t2,EV l.length t2 /\
   aH (lT l.length o) n (t,j,a,j,lo,hi,s,p - lo,b0,b1,far,c0,c1,c2,c3,c4,c5,c6,c7)=.inl (t2,j+1) /\
   aH (gG l o) m (t,j,a,p,lo,hi,d2,d3,d4,d5,d6,d7,c0,c1,e2,e3,e4,e5,e6,e7)=.inl (t2,j+1)
 | 0,n,m,t,a,p,hq,hcq,hn,hm,ht=>by
  obtain⟨n,rfl⟩:∃x,n=x+1:=⟨n - 1,by omega⟩
  obtain⟨m,rfl⟩:∃x,m=x+1:=⟨m - 1,by omega⟩
  refine⟨t,ht,?_,?_⟩
  ·refine aQ ?_
   simp only [lT]
   rw [dA (by omega),cond_false]
  ·refine aQ ?_
   simp only [gG]
   rw [dA (by omega),cond_false]
 | d+1,n,m,t,a,p,hq,hcq,hn,hm,ht=>by
  obtain⟨n,rfl⟩:∃x,n=x+1:=⟨n - 1,by omega⟩
  obtain⟨m,rfl⟩:∃x,m=x+1:=⟨m - 1,by omega⟩
  obtain⟨t2,a2,g1,g2,g3⟩:=aSy (lo:=lo) (hi:=hi) (i:=p - lo) (s:=s) (b0:=b0) (b1:=b1) (c2:=c2) (c3:=c3) (c4:=c4) (c5:=c5) (c6:=c6) (c7:=c7) (d2:=d2) (d3:=d3) (d4:=d4) (d5:=d5) (d6:=d6) (d7:=d7) (e2:=e2) (e3:=e3) (e4:=e4) (e5:=e5) (e6:=e6) (e7:=e7) he h0 hc.1 rfl (s2:=((tN c1 - tN c0:Nat):Int)) (c1:=c1) (by omega) hfar (tN (c1 - c0)) (tN (((tN c1 - tN c0:Nat):Int) - 0)+1) (tN (c1 - c0)+1) t a c0 (by omega) (Int.le_refl _) (by omega) (by omega) ht (p:=p)
  rw [Int.sub_self] at g2
  have e1:lT l.length o (t,j,a,j,lo,hi,s,p - lo,b0,b1,far,c0,c1,c2,c3,c4,c5,c6,c7)=.inl (t2,j,a2,j,lo,hi,s,p+1 - lo,b0,b1,far,c0,c1,c2,c3,c4,c5,c6,c7):=by
   simp only [lT]
   rw [cI (by omega),cond_true,show tN lo+tN (p - lo)=tN p from by omega,g2,show p - lo+1=p+1 - lo from by omega]
  have e2:gG l o (t,j,a,p,lo,hi,d2,d3,d4,d5,d6,d7,c0,c1,e2,e3,e4,e5,e6,e7)=.inl (t2,j,a2,p+1,lo,hi,d2,d3,d4,d5,d6,d7,c0,c1,e2,e3,e4,e5,e6,e7):=by
   simp only [gG]
   rw [cI (by omega),cond_true,g3]
  rw [aI e1,aI e2]
  exact aSz he h0 hc hlo hs hfar d n m t2 a2 (p+1) (by omega) (by omega) (by omega) (by omega) g1
theorem aS0 {l:gU} {o:tE} (he:EOV l o):∀(d n m:Nat) (t:List (List (Int×Int))) (j:Int),j+d=o.2.1.length->0<=j->d < n->d < m->EV l.length t->∃t2,EV l.length t2 /\
 aH (jV l.length o) n (t,j)=t2/\aH (fL l o) m (t,j)=t2
 | 0,n,m,t,j,hj,h0,hn,hm,ht=>by
  obtain⟨n,rfl⟩:∃x,n=x+1:=⟨n - 1,by omega⟩
  obtain⟨m,rfl⟩:∃x,m=x+1:=⟨m - 1,by omega⟩
  refine⟨t,ht,?_,?_⟩
  ·refine aQ ?_
   simp only [jV]
   rw [dA (by omega),cond_false];rfl
  ·refine aQ ?_
   simp only [fL]
   rw [dA (by omega),cond_false];rfl
 | d+1,n,m,t,j,hj,h0,hn,hm,ht=>by
  obtain⟨n,rfl⟩:∃x,n=x+1:=⟨n - 1,by omega⟩
  obtain⟨m,rfl⟩:∃x,m=x+1:=⟨m - 1,by omega⟩
  have hb:=he.ok.blk j h0 (by omega)
  have hl:=he.ok.nz (by omega)
  obtain⟨b1,b2,b3,b4,_⟩:=hb
  generalize hN1:o.1.2.getD (tN (o.2.1.getD (tN j) dF).1) dF=N1 at b3
  generalize hN2:o.1.2.getD (tN (o.2.1.getD (tN j) dF).2.1) dF=N2 at b4
  obtain⟨t2,g1,g2,g3⟩:=aSz (b0:=(o.2.1.getD (tN j) dF).1) (b1:=(o.2.1.getD (tN j) dF).2.1) (far:=(o.2.1.getD (tN j) dF).2.2) (c0:=N2.1) (c1:=N2.2.1) (c2:=N2.2.2.1) (c3:=N2.2.2.2.1) (c4:=N2.2.2.2.2.1.1) (c5:=N2.2.2.2.2.1.2.1) (c6:=N2.2.2.2.2.1.2.2) (c7:=N2.2.2.2.2.2)
   (d2:=N1.2.2.1) (d3:=N1.2.2.2.1) (d4:=N1.2.2.2.2.1.1) (d5:=N1.2.2.2.2.1.2.1) (d6:=N1.2.2.2.2.1.2.2) (d7:=N1.2.2.2.2.2) (e2:=N2.2.2.1) (e3:=N2.2.2.2.1) (e4:=N2.2.2.2.2.1.1) (e5:=N2.2.2.2.2.1.2.1) (e6:=N2.2.2.2.2.1.2.2) (e7:=N2.2.2.2.2.2) he (by omega) ⟨b4.1,b4.2.1⟩ b3.1 (s:=((tN N1.2.1 - tN N1.1:Nat):Int)) (hi:=N1.2.1) (by omega) rfl
   (tN (N1.2.1 - N1.1)) (tN (((tN N1.2.1 - tN N1.1:Nat):Int) - 0)+1) (tN (N1.2.1 - N1.1)+1) t 0 N1.1 (by omega) (Int.le_refl _) (by omega) (by omega) ht (j:=j)
  rw [Int.sub_self] at g2
  have e1:jV l.length o (t,j)=.inl (t2,j+1):=by
   simp only [jV]
   rw [cI (by omega),cond_true,hN1,hN2]
   exact g2
  have e2:fL l o (t,j)=.inl (t2,j+1):=by
   simp only [fL]
   rw [cI (by omega),cond_true,hN1,hN2]
   exact g3
  rw [aI e1,aI e2]
  exact aS0 he d n m t2 (j+1) (by omega) (by omega) (by omega) (by omega) g1
theorem aHq {α:Type} (n:Nat)(r:α):List.replicate n r++[r]=List.replicate (n+1) r:=by rw [List.replicate_succ']
theorem aR9 {α:Type} (i d:Nat)(r z:α):(List.replicate i r++List.replicate (d+1) z).set i r=List.replicate (i+1) r++List.replicate d z:=by
 rw [List.set_append,if_neg (by simp),List.length_replicate,Nat.sub_self,List.replicate_succ,List.set_cons_zero,←aHq,List.append_assoc];rfl
theorem aS1 (l:gU)(o:tE):∀(d i n:Nat),i+d=l.length->d < n->aH (nG l.length o) n (List.replicate i (List.replicate l.length ((0,0):Int×Int))++List.replicate d [],(i:Int)) =
 aH (jV l.length o) (tN ((o.2.1.length:Int) - 0)+1) (List.replicate l.length (List.replicate l.length ((0,0):Int×Int)),0)
 | 0,i,n,hi,hn=>by
  obtain⟨n,rfl⟩:∃x,n=x+1:=⟨n - 1,by omega⟩
  obtain rfl:i=l.length:=by omega
  refine aQ ?_
  simp only [nG]
  rw [dA (by rw [fT];omega),cond_false,List.replicate_zero,List.append_nil]
 | d+1,i,n,hi,hn=>by
  obtain⟨n,rfl⟩:∃x,n=x+1:=⟨n - 1,by omega⟩
  have e:nG l.length o (List.replicate i (List.replicate l.length ((0,0):Int×Int))++List.replicate (d+1) [],(i:Int))=.inl (List.replicate (i+1) (List.replicate l.length ((0,0):Int×Int))++List.replicate d [],((i+1:Nat):Int)):=by
   simp only [nG,xL,xK]
   rw [cI (by rw [fT];omega),cond_true,fT,fT,aR9];rfl
  rw [aI e]
  exact aS1 l o d (i+1) n (by omega) (by omega)
theorem aS2 (l:gU)(o:tE):∀(d i n:Nat),i+d=l.length->d < n->aH (hY l o) n (List.replicate i (List.replicate l.length ((0,0):Int×Int)),(i:Int)) =
 aH (fL l o) (tN ((o.2.1.length:Int) - 0)+1) (List.replicate l.length (List.replicate l.length ((0,0):Int×Int)),0)
 | 0,i,n,hi,hn=>by
  obtain⟨n,rfl⟩:∃x,n=x+1:=⟨n - 1,by omega⟩
  obtain rfl:i=l.length:=by omega
  refine aQ ?_
  simp only [hY]
  rw [dA (by omega),cond_false]
 | d+1,i,n,hi,hn=>by
  obtain⟨n,rfl⟩:∃x,n=x+1:=⟨n - 1,by omega⟩
  have e:hY l o (List.replicate i (List.replicate l.length ((0,0):Int×Int)),(i:Int))=.inl (List.replicate (i+1) (List.replicate l.length ((0,0):Int×Int)),((i+1:Nat):Int)):=by
   simp only [hY,pB,pA]
   rw [cI (by omega),cond_true,aHq];rfl
  rw [aI e]
  exact aS2 l o d (i+1) n (by omega) (by omega)
theorem aJt {l:gU} {o:tE} (he:EOV l o):F23 l.length o=kO l o/\EV l.length (kO l o):=by
 obtain⟨t2,g1,g2,g3⟩:=aS0 he o.2.1.length (tN ((o.2.1.length:Int) - 0)+1) (tN ((o.2.1.length:Int) - 0)+1) _ 0 (by omega) (Int.le_refl _) (by omega) (by omega) (EV.rep l.length)
 have e1:=aS1 l o l.length 0 (tN ((((tN (l.length:Int)):Nat):Int) - 0)+1) (by omega) (by rw [fT];omega)
 have e2:=aS2 l o l.length 0 (tN ((l.length:Int) - 0)+1) (by omega) (by omega)
 have f1:F23 l.length o=t2:=by
  unfold F23
  rw [g2] at e1
  exact e1
 have f2:kO l o=t2:=by
  unfold kO
  rw [g3] at e2
  exact e2
 rw [f1,f2]
 exact⟨rfl,g1⟩
def F28 (a0:Int)(a1:Int)(a2:Int):Bool :=
 (bif (decide ((a0:Int)≥a1)) then
  (decide ((a0:Int)<=a2))
 else
  false)
theorem C28 (a0:Int)(a1:Int)(a2:Int):Con Tryz.prog 28 [(iv a0),(iv a1),(iv a2)] [] (.v (.bool (F28 a0 a1 a2))) []:=by
 refine bA Tryz.func28 (by kernel_rfl) fun cx hcx=>?_
 cases h0:(decide ((a0:Int)≥a1)) with
 | true =>
  have q0:=cN h0
  have e:=Eq.refl (F28 a0 a1 a2);conv at e=>rhs;simp only [F28,h0,aW]
  rw [e]
  exact rt [.d h0] [] [] hcx (by kernel_rfl)
 | false =>
  have q0:=cY h0
  have e:=Eq.refl (F28 a0 a1 a2);conv at e=>rhs;simp only [F28,h0,aW]
  rw [e]
  exact rt [.d h0] [] [] hcx (by kernel_rfl)
theorem aSa {a:Int×Int} {n:Int} (ha:vs a)(hn:-1099511627776<=n/\n<=1099511627776):F38 a n=F45 a n:=(aQs ha hn).trans (aQt ha hn).symm
theorem aSb {L:List (Int×Int)} (hl:∀a∈L,vs a)(hn:L.length<=10000):aAs L=aAu L:=(aU0 hl hn).trans (aU1 hl hn).symm
theorem aUb {l:gU} {m:List (List (Int×Int))} (hm:EV l.length m)(hl:l.length<=96)(hq:∀i,i < l.length->-100<=(l.getD i dF).2/\(l.getD i dF).2<=100)(n:Nat)(v:List (Int×Int))(j:Int) :
 aH (sK l m) n (v,[],j,j,0)=aH (kX l m) n (v,[],j,0):=by
 refine aC9 (S:=sK l m) (S':=kX l m) (fun x y=>x.1=y.1/\x.2.1=y.2.1/\x.2.2.1=y.2.2.1/\x.2.2.2.1=x.2.2.1/\x.2.2.2.2=y.2.2.2/\0<=x.2.2.2.2/\x.2.2.2.2<=(l.length:Int)/\x.2.1.length=tN x.2.2.2.2/\∀a∈x.2.1,vs a) ?_ n _ _ ⟨rfl,rfl,rfl,rfl,rfl,Int.le_refl _,by simp only;omega,rfl,fun a ha=>by cases ha⟩
 rintro ⟨x1,x2,x3,x4,x5⟩ ⟨y1,y2,y3,y4⟩ ⟨h1,h2,h3,h4,h5,h6,h7,h8,h9⟩
 simp only at h1 h2 h3 h4 h5 h6 h7 h8 h9
 subst h1 h2 h3 h5
 simp only [sK,kX]
 by_cases hb:x5 < (l.length:Int)
 ·rw [cI hb,cond_true,cond_true]
  have hc:=hq (tN x5) (by omega)
  have hv:vs ((m.getD (tN x5) dF).getD (tN x3) dF):=hm.val (tN x5) (tN x3)
  rw [←aSa hv (by omega)]
  cases hz:((F38 ((m.getD (tN x5) dF).getD (tN x3) dF) (l.getD (tN x5) dF).2).2 != 0) with
  | true=>exact .inr ⟨_,rfl,rfl⟩
  | false =>
   have hs:=aN1 (bne_eq_false_iff_eq.1 hz)
   refine .inl ⟨_,_,rfl,rfl,rfl,rfl,rfl,h4,rfl,by simp only;omega,by simp only;omega,by simp only [List.length_append,List.length_singleton];omega,fun a ha=>?_⟩
   rcases List.mem_append.1 ha with ha | ha
   ·exact h9 a ha
   ·rw [List.mem_singleton.1 ha];exact hs
 ·rw [dA hb,cond_false,cond_false,←aSb h9 (by omega),h4]
  cases ((aAs x2).2 != 0) with
  | true=>exact .inr ⟨_,rfl,rfl⟩
  | false=>exact .inr ⟨_,rfl,rfl⟩
theorem aUc {l:gU} {m:List (List (Int×Int))} (hm:EV l.length m)(hl:l.length<=96)(hq:∀i,i < l.length->-100<=(l.getD i dF).2/\(l.getD i dF).2<=100):zJ l m=sL l m:=by
 unfold zJ sL
 have e:xP l m=pG l m:=by
  funext ⟨v,j⟩
  simp only [xP,pG]
  rw [aUb hm hl hq]
 rw [e]
theorem jF {l:gU} {o:tE} (h:fX l o=0)(hsl:∀j:Nat,(o.2.2.getD j dF).length<=10000):l.length<=96/\(F23 l.length o).length=l.length/\(∀j:Nat,j < l.length->((F23 l.length o).getD j dF).length=l.length) /\
 (kO l o).length=l.length/\(∀j:Nat,j < l.length->((kO l o).getD j dF).length=l.length):=by
 have he:=aJs h hsl
 obtain⟨e,hv⟩:=aJt he
 have:=he.ok.n1
 rw [e]
 exact⟨by omega,hv.tl.1,fun j hj=>hv.tl.2 j hj,hv.tl.1,fun j hj=>hv.tl.2 j hj⟩
theorem qO {n m k:Int} (h:(!(F27 n k m))=false):k<=n/\n<=m:=by
 unfold F27 at h
 by_cases h1:n≥k
 ·rw [cI h1,cond_true] at h
  by_cases h2:n<=m
  ·exact⟨h1,h2⟩
  ·rw [dA h2] at h;cases h
 ·rw [dA h1,cond_false] at h;cases h
theorem rX {n m k:Int} (h:(!(F28 n k m))=false):k<=n/\n<=m:=qO h
def kP (a0:bT)(a1:(List Int×bE)×(List (Int×Int×Bool))×List (List (Int×Int)))(a2:Int)(a3:Int):(Int×Int)×Int :=
 (bif (((qX a0 ((a1.1.1,a1.1.2),a1.2.1,a1.2.2)):Int) != 0) then
  ((0,0),(qX a0 ((a1.1.1,a1.1.2),a1.2.1,a1.2.2)))
 else
  (bif (!(F27 a2 0 (W ((a0.length:Int) - 1)))) then
   ((0,0),5)
  else
   (bif (!(F27 a3 0 (W ((a0.length:Int) - 1)))) then
    ((0,0),5)
   else
    ((((F23 (a0.length:Int) ((a1.1.1,a1.1.2),a1.2.1,a1.2.2)).getD (tN a2) dF).getD (tN a3) dF),0))))
theorem aWa (a0:bT)(a1:(List Int×bE)×(List (Int×Int×Bool))×List (List (Int×Int)))(a2:Int)(a3:Int)(l0:a0.length<=2^63-1)(l1_1_1:a1.1.1.length<=2^63-1)(l1_1_2:a1.1.2.length<=2^63-1)(l1_2_1:a1.2.1.length<=2^63-1)(l1_2_2:a1.2.2.length<=2^63-1)(hsl:∀j:Nat,(a1.2.2.getD j dF).length<=10000):Con Tryz.prog 13 [(.s 0 0 a0.length 10),(.a [(.s 1 0 a1.1.1.length 1),(.s 2 0 a1.1.2.length 8),(.s 3 0 a1.2.1.length 3),(.s 4 0 a1.2.2.length 1)]),(iv a2),(iv a3)] [(.live false true (flat dI a0)),(.live false true (flat c3 a1.1.1)),(.live false true (flat bZ a1.1.2)),(.live false true (flat eS a1.2.1)),(.live false true (flat jM a1.2.2))] (.t [(.a (k2 (kP a0 a1 a2 a3).1)),(iv (kP a0 a1 a2 a3).2)]) []:=by
 refine bA Tryz.func13 (by kernel_rfl) fun cx hcx=>?_
 let t0:List (St Tryz.prog):=[.c [0,1,2,3,4] (aV8 a0 ((a1.1.1,a1.1.2),a1.2.1,a1.2.2) (by omega) (by omega) (by omega) (by omega) (by omega) hsl)]
 cases h0:(((qX a0 ((a1.1.1,a1.1.2),a1.2.1,a1.2.2)):Int) != 0) with
 | true =>
  have q0:=bne_iff_ne.1 h0
  have e:=Eq.refl (kP a0 a1 a2 a3);conv at e=>rhs;simp only [kP,h0,aW]
  rw [e]
  exact rt (t0++[.d h0]) [] [] hcx (by kernel_rfl)
 | false =>
  have q0:=bne_eq_false_iff_eq.1 h0
  try have hra:fX a0 ((a1.1.1,a1.1.2),a1.2.1,a1.2.2)=0:=by rw [←uM];exact bne_eq_false_iff_eq.1 h0
  try have hdm:=(fun _=>jF (o:=((a1.1.1,a1.1.2),a1.2.1,a1.2.2)) hra hsl) h0
  try have hd1:=(fun _=>hdm.1) h0
  try have hd2:=(fun _=>hdm.2.1) h0
  try have hd3:=(fun _=>hdm.2.2.2.1) h0
  let t1:List (St Tryz.prog):=(t0++[.d h0,.c [] (C27 a2 0 (W ((a0.length:Int) - 1)))])
  cases h1:(!(F27 a2 0 (W ((a0.length:Int) - 1)))) with
  | true =>
   try have hra:fX a0 ((a1.1.1,a1.1.2),a1.2.1,a1.2.2)=0:=by rw [←uM];exact bne_eq_false_iff_eq.1 h0
   try have hdm:=(fun _=>jF (o:=((a1.1.1,a1.1.2),a1.2.1,a1.2.2)) hra hsl) h0
   try have hd1:=(fun _=>hdm.1) h0
   try have hd2:=(fun _=>hdm.2.1) h0
   try have hd3:=(fun _=>hdm.2.2.2.1) h0
   try have hww:=(fun _=>aR (n:=(a0.length:Int) - 1) (by omega) (by omega)) h1
   have e:=Eq.refl (kP a0 a1 a2 a3);conv at e=>rhs;simp only [kP,h0,h1,aW]
   rw [e]
   exact rt (t1++[.d h1]) [] [] hcx (by kernel_rfl)
  | false =>
   try have hra:fX a0 ((a1.1.1,a1.1.2),a1.2.1,a1.2.2)=0:=by rw [←uM];exact bne_eq_false_iff_eq.1 h0
   try have hdm:=(fun _=>jF (o:=((a1.1.1,a1.1.2),a1.2.1,a1.2.2)) hra hsl) h0
   try have hd1:=(fun _=>hdm.1) h0
   try have hd2:=(fun _=>hdm.2.1) h0
   try have hd3:=(fun _=>hdm.2.2.2.1) h0
   try have hww:=(fun _=>aR (n:=(a0.length:Int) - 1) (by omega) (by omega)) h1
   try have hw1:=qO h1
   try have hw1:=rX h1
   let t2:List (St Tryz.prog):=(t1++[.d h1,.c [] (C27 a3 0 (W ((a0.length:Int) - 1)))])
   cases h2:(!(F27 a3 0 (W ((a0.length:Int) - 1)))) with
   | true =>
    try have hra:fX a0 ((a1.1.1,a1.1.2),a1.2.1,a1.2.2)=0:=by rw [←uM];exact bne_eq_false_iff_eq.1 h0
    try have hdm:=(fun _=>jF (o:=((a1.1.1,a1.1.2),a1.2.1,a1.2.2)) hra hsl) h0
    try have hd1:=(fun _=>hdm.1) h0
    try have hd2:=(fun _=>hdm.2.1) h0
    try have hd3:=(fun _=>hdm.2.2.2.1) h0
    try have hww:=(fun _=>aR (n:=(a0.length:Int) - 1) (by omega) (by omega)) h1
    try have hw1:=qO h1
    try have hw1:=rX h1
    try have hd4:=(fun _=>hdm.2.2.1 (tN a2) (by omega)) h2
    try have hd5:=(fun _=>hdm.2.2.2.2 (tN a2) (by omega)) h2
    have e:=Eq.refl (kP a0 a1 a2 a3);conv at e=>rhs;simp only [kP,h0,h1,h2,aW]
    rw [e]
    exact rt (t2++[.d h2]) [] [] hcx (by kernel_rfl)
   | false =>
    try have hra:fX a0 ((a1.1.1,a1.1.2),a1.2.1,a1.2.2)=0:=by rw [←uM];exact bne_eq_false_iff_eq.1 h0
    try have hdm:=(fun _=>jF (o:=((a1.1.1,a1.1.2),a1.2.1,a1.2.2)) hra hsl) h0
    try have hd1:=(fun _=>hdm.1) h0
    try have hd2:=(fun _=>hdm.2.1) h0
    try have hd3:=(fun _=>hdm.2.2.2.1) h0
    try have hww:=(fun _=>aR (n:=(a0.length:Int) - 1) (by omega) (by omega)) h1
    try have hw1:=qO h1
    try have hw2:=qO h2
    try have hw1:=rX h1
    try have hw2:=rX h2
    try have hd4:=(fun _=>hdm.2.2.1 (tN a2) (by omega)) h2
    try have hd5:=(fun _=>hdm.2.2.2.2 (tN a2) (by omega)) h2
    have e:=Eq.refl (kP a0 a1 a2 a3);conv at e=>rhs;simp only [kP,h0,h1,h2,aW]
    rw [e]
    exact rt (t2++[.d h2,.c [1,2,3,4] (C23 (a0.length:Int) ((a1.1.1,a1.1.2),a1.2.1,a1.2.2) (by omega) (by omega) (by omega) (by omega) (aJr hra hsl)),.i a2 ((F23 (a0.length:Int) ((a1.1.1,a1.1.2),a1.2.1,a1.2.2)).length),.L jK (F23 (a0.length:Int) ((a1.1.1,a1.1.2),a1.2.1,a1.2.2)) a2 0 1,.p (fZ (c:=jY) (fun _=>rfl) ((F23 (a0.length:Int) ((a1.1.1,a1.1.2),a1.2.1,a1.2.2)).getD (tN a2) dF)),.i a3 (((F23 (a0.length:Int) ((a1.1.1,a1.1.2),a1.2.1,a1.2.2)).getD (tN a2) dF).length),.L gP ((F23 (a0.length:Int) ((a1.1.1,a1.1.2),a1.2.1,a1.2.2)).getD (tN a2) dF) a3 0 2]) [] [] hcx (by kernel_rfl)
def kQ (a0:bT)(a1:(List Int×bE)×(List (Int×Int×Bool))×List (List (Int×Int)))(a2:Int)(a3:Int):(Int×Int)×Int :=
 (bif (((fX a0 ((a1.1.1,a1.1.2),a1.2.1,a1.2.2)):Int) != 0) then
  ((0,0),(fX a0 ((a1.1.1,a1.1.2),a1.2.1,a1.2.2)))
 else
  (bif (!(F28 a2 0 (W ((a0.length:Int) - 1)))) then
   ((0,0),5)
  else
   (bif (!(F28 a3 0 (W ((a0.length:Int) - 1)))) then
    ((0,0),5)
   else
    ((((kO a0 ((a1.1.1,a1.1.2),a1.2.1,a1.2.2)).getD (tN a2) dF).getD (tN a3) dF),0))))
theorem aWb (a0:bT)(a1:(List Int×bE)×(List (Int×Int×Bool))×List (List (Int×Int)))(a2:Int)(a3:Int)(l0:a0.length<=2^63-1)(l1_1_1:a1.1.1.length<=2^63-1)(l1_1_2:a1.1.2.length<=2^63-1)(l1_2_1:a1.2.1.length<=2^63-1)(l1_2_2:a1.2.2.length<=2^63-1)(hsl:∀j:Nat,(a1.2.2.getD j dF).length<=10000):Con Tryz.prog 14 [(.s 0 0 a0.length 10),(.a [(.s 1 0 a1.1.1.length 1),(.s 2 0 a1.1.2.length 8),(.s 3 0 a1.2.1.length 3),(.s 4 0 a1.2.2.length 1)]),(iv a2),(iv a3)] [(.live false true (flat dI a0)),(.live false true (flat c3 a1.1.1)),(.live false true (flat bZ a1.1.2)),(.live false true (flat eS a1.2.1)),(.live false true (flat jM a1.2.2))] (.t [(.a (k2 (kQ a0 a1 a2 a3).1)),(iv (kQ a0 a1 a2 a3).2)]) []:=by
 refine bA Tryz.func14 (by kernel_rfl) fun cx hcx=>?_
 let t0:List (St Tryz.prog):=[.c [0,1,2,3,4] (aV9 a0 ((a1.1.1,a1.1.2),a1.2.1,a1.2.2) (by omega) (by omega) (by omega) (by omega) (by omega) hsl)]
 cases h0:(((fX a0 ((a1.1.1,a1.1.2),a1.2.1,a1.2.2)):Int) != 0) with
 | true =>
  have q0:=bne_iff_ne.1 h0
  have e:=Eq.refl (kQ a0 a1 a2 a3);conv at e=>rhs;simp only [kQ,h0,aW]
  rw [e]
  exact rt (t0++[.d h0]) [] [] hcx (by kernel_rfl)
 | false =>
  have q0:=bne_eq_false_iff_eq.1 h0
  try have hra:fX a0 ((a1.1.1,a1.1.2),a1.2.1,a1.2.2)=0:=bne_eq_false_iff_eq.1 h0
  try have hdm:=(fun _=>jF (o:=((a1.1.1,a1.1.2),a1.2.1,a1.2.2)) hra hsl) h0
  try have hd1:=(fun _=>hdm.1) h0
  try have hd2:=(fun _=>hdm.2.1) h0
  try have hd3:=(fun _=>hdm.2.2.2.1) h0
  let t1:List (St Tryz.prog):=(t0++[.d h0,.c [] (C28 a2 0 (W ((a0.length:Int) - 1)))])
  cases h1:(!(F28 a2 0 (W ((a0.length:Int) - 1)))) with
  | true =>
   try have hra:fX a0 ((a1.1.1,a1.1.2),a1.2.1,a1.2.2)=0:=bne_eq_false_iff_eq.1 h0
   try have hdm:=(fun _=>jF (o:=((a1.1.1,a1.1.2),a1.2.1,a1.2.2)) hra hsl) h0
   try have hd1:=(fun _=>hdm.1) h0
   try have hd2:=(fun _=>hdm.2.1) h0
   try have hd3:=(fun _=>hdm.2.2.2.1) h0
   try have hww:=(fun _=>aR (n:=(a0.length:Int) - 1) (by omega) (by omega)) h1
   have e:=Eq.refl (kQ a0 a1 a2 a3);conv at e=>rhs;simp only [kQ,h0,h1,aW]
   rw [e]
   exact rt (t1++[.d h1]) [] [] hcx (by kernel_rfl)
  | false =>
   try have hra:fX a0 ((a1.1.1,a1.1.2),a1.2.1,a1.2.2)=0:=bne_eq_false_iff_eq.1 h0
   try have hdm:=(fun _=>jF (o:=((a1.1.1,a1.1.2),a1.2.1,a1.2.2)) hra hsl) h0
   try have hd1:=(fun _=>hdm.1) h0
   try have hd2:=(fun _=>hdm.2.1) h0
   try have hd3:=(fun _=>hdm.2.2.2.1) h0
   try have hww:=(fun _=>aR (n:=(a0.length:Int) - 1) (by omega) (by omega)) h1
   try have hw1:=qO h1
   try have hw1:=rX h1
   let t2:List (St Tryz.prog):=(t1++[.d h1,.c [] (C28 a3 0 (W ((a0.length:Int) - 1)))])
   cases h2:(!(F28 a3 0 (W ((a0.length:Int) - 1)))) with
   | true =>
    try have hra:fX a0 ((a1.1.1,a1.1.2),a1.2.1,a1.2.2)=0:=bne_eq_false_iff_eq.1 h0
    try have hdm:=(fun _=>jF (o:=((a1.1.1,a1.1.2),a1.2.1,a1.2.2)) hra hsl) h0
    try have hd1:=(fun _=>hdm.1) h0
    try have hd2:=(fun _=>hdm.2.1) h0
    try have hd3:=(fun _=>hdm.2.2.2.1) h0
    try have hww:=(fun _=>aR (n:=(a0.length:Int) - 1) (by omega) (by omega)) h1
    try have hw1:=qO h1
    try have hw1:=rX h1
    try have hd4:=(fun _=>hdm.2.2.1 (tN a2) (by omega)) h2
    try have hd5:=(fun _=>hdm.2.2.2.2 (tN a2) (by omega)) h2
    have e:=Eq.refl (kQ a0 a1 a2 a3);conv at e=>rhs;simp only [kQ,h0,h1,h2,aW]
    rw [e]
    exact rt (t2++[.d h2]) [] [] hcx (by kernel_rfl)
   | false =>
    try have hra:fX a0 ((a1.1.1,a1.1.2),a1.2.1,a1.2.2)=0:=bne_eq_false_iff_eq.1 h0
    try have hdm:=(fun _=>jF (o:=((a1.1.1,a1.1.2),a1.2.1,a1.2.2)) hra hsl) h0
    try have hd1:=(fun _=>hdm.1) h0
    try have hd2:=(fun _=>hdm.2.1) h0
    try have hd3:=(fun _=>hdm.2.2.2.1) h0
    try have hww:=(fun _=>aR (n:=(a0.length:Int) - 1) (by omega) (by omega)) h1
    try have hw1:=qO h1
    try have hw2:=qO h2
    try have hw1:=rX h1
    try have hw2:=rX h2
    try have hd4:=(fun _=>hdm.2.2.1 (tN a2) (by omega)) h2
    try have hd5:=(fun _=>hdm.2.2.2.2 (tN a2) (by omega)) h2
    have e:=Eq.refl (kQ a0 a1 a2 a3);conv at e=>rhs;simp only [kQ,h0,h1,h2,aW]
    rw [e]
    exact rt (t2++[.d h2,.c [0,1,2,3,4] (aV5 a0 ((a1.1.1,a1.1.2),a1.2.1,a1.2.2) (by omega) (by omega) (by omega) (by omega) (by omega) (aJr hra hsl)),.i a2 ((kO a0 ((a1.1.1,a1.1.2),a1.2.1,a1.2.2)).length),.L jK (kO a0 ((a1.1.1,a1.1.2),a1.2.1,a1.2.2)) a2 0 1,.p (fZ (c:=jY) (fun _=>rfl) ((kO a0 ((a1.1.1,a1.1.2),a1.2.1,a1.2.2)).getD (tN a2) dF)),.i a3 (((kO a0 ((a1.1.1,a1.1.2),a1.2.1,a1.2.2)).getD (tN a2) dF).length),.L gP ((kO a0 ((a1.1.1,a1.1.2),a1.2.1,a1.2.2)).getD (tN a2) dF) a3 0 2]) [] [] hcx (by kernel_rfl)
def aUd (a0:bT)(a1:(List Int×bE)×(List (Int×Int×Bool))×List (List (Int×Int))):(List (Int×Int))×Int :=
 (bif (((qX a0 ((a1.1.1,a1.1.2),a1.2.1,a1.2.2)):Int) != 0) then
  (([]:List (Int×Int)),(qX a0 ((a1.1.1,a1.1.2),a1.2.1,a1.2.2)))
 else
  ((zJ a0 (F23 (a0.length:Int) ((a1.1.1,a1.1.2),a1.2.1,a1.2.2))).1,(zJ a0 (F23 (a0.length:Int) ((a1.1.1,a1.1.2),a1.2.1,a1.2.2))).2))
def aL0 (a0:bT)(a1:(List Int×bE)×(List (Int×Int×Bool))×List (List (Int×Int))):(List (Int×Int))×Int :=
 (bif (((fX a0 ((a1.1.1,a1.1.2),a1.2.1,a1.2.2)):Int) != 0) then
  (([]:List (Int×Int)),(fX a0 ((a1.1.1,a1.1.2),a1.2.1,a1.2.2)))
 else
  ((sL a0 (kO a0 ((a1.1.1,a1.1.2),a1.2.1,a1.2.2))).1,(sL a0 (kO a0 ((a1.1.1,a1.1.2),a1.2.1,a1.2.2))).2))
section
variable {l : List (PN × Int)} {d : Int}
end
section
variable {l : List (PN × Int)} {d : Int}
end
theorem rY {k:tE} (h:F6 ((k.1.1,k.1.2),k.2.1,k.2.2)=false):∀j:Nat,(k.2.2.getD j dF).length<=10000:=by
 unfold F6 at h
 simp only at h
 cases h1:decide ((k.1.1.length:Int) > 100) with
 | true=>rw [h1,cond_true] at h;cases h
 | false =>
  cases h2:decide ((k.1.2.length:Int) > 200) with
  | true=>rw [h1,h2,cond_false,cond_true] at h;cases h
  | false =>
   cases h3:decide ((k.2.1.length:Int) > 2000) with
   | true=>rw [h1,h2,h3,cond_false,cond_false,cond_true] at h;cases h
   | false =>
    cases h4:decide ((k.2.2.length:Int) > 2000) with
    | true=>rw [h1,h2,h3,h4,cond_false,cond_false,cond_false,cond_true] at h;cases h
    | false =>
     rw [h1,h2,h3,h4,cond_false,cond_false,cond_false,cond_false] at h
     have key:∀j,j < k.2.2.length->(k.2.2.getD j dF).length<=2000:=by
      refine kY (S:=aCf ((k.1.1,k.1.2),k.2.1,k.2.2)) (fun v=>tN ((k.2.2.length:Int) - v)) (fun v=>0<=v/\∀j,j < tN v->(k.2.2.getD j dF).length<=2000) (fun r=>r=false->∀j,j < k.2.2.length->(k.2.2.getD j dF).length<=2000) ?_ _ _ ⟨Int.le_refl _,fun j hj=>absurd hj (by simp)⟩ (by omega) h
      rintro v ⟨g1,g2⟩
      simp only [aCf]
      by_cases hv:v < (k.2.2.length:Int)
      ·rw [cI hv,cond_true]
       by_cases hb:(((k.2.2.getD (tN v) dF).length:Nat):Int) > 2000
       ·rw [cI hb,cond_true];exact .inr ⟨_,rfl,fun e=>by cases e⟩
       ·rw [dA hb,cond_false]
        refine .inl ⟨_,rfl,⟨by omega,fun j hj=>?_⟩,by omega⟩
        by_cases he:j=tN v
        ·rw [he];omega
        ·exact g2 j (by omega)
      ·rw [dA hv,cond_false]
       exact .inr ⟨_,rfl,fun _ j hj=>g2 j (by omega)⟩
     intro j
     by_cases hj:j < k.2.2.length
     ·have:=key j hj;omega
     ·rw [fP,List.getElem?_eq_none (by omega)];exact Nat.zero_le _
theorem aSc {l:gU} {m:List (List (Int×Int))}:(sL l m).1.length<=l.length:=by
 unfold sL
 refine kY (S:=pG l m) (fun x=>tN ((l.length:Int) - x.2)) (fun x=>0<=x.2/\x.1.length=tN x.2/\x.2<=(l.length:Int)) (fun r=>r.1.length<=l.length) ?_ _ _ ⟨Int.le_refl _,rfl,by simp only;omega⟩ (by simp only;omega)
 rintro ⟨v,j⟩ ⟨h1,h2,h3⟩
 simp only at h1 h2 h3
 simp only [pG]
 by_cases hj:j < (l.length:Int)
 ·rw [cI hj,cond_true]
  have key:∀r,r=aH (kX l m) (tN ((l.length:Int) - 0)+1) (v,[],j,0)->(∃s,r=.inl (v++[s],j+1))\/∃e:Int,r=.inr ([],e):=by
   rintro r rfl
   refine kY (S:=kX l m) (fun x=>tN ((l.length:Int) - x.2.2.2)) (fun x=>x.1=v/\x.2.2.1=j) (fun r=>(∃s,r=.inl (v++[s],j+1))\/∃e:Int,r=.inr ([],e)) ?_ _ _ ⟨rfl,rfl⟩ (by simp only;omega)
   rintro ⟨x1,x2,x3,x4⟩ ⟨rfl,rfl⟩
   simp only [kX]
   by_cases hx:x4 < (l.length:Int)
   ·rw [cI hx,cond_true]
    cases ((F45 ((m.getD (tN x4) dF).getD (tN x3) dF) (l.getD (tN x4) dF).2).2 != 0) with
    | true=>exact .inr ⟨_,rfl,.inr ⟨_,rfl⟩⟩
    | false=>exact .inl ⟨_,rfl,⟨rfl,rfl⟩,by simp only;omega⟩
   ·rw [dA hx,cond_false]
    cases ((aAu x2).2 != 0) with
    | true=>exact .inr ⟨_,rfl,.inr ⟨_,rfl⟩⟩
    | false=>exact .inr ⟨_,rfl,.inl ⟨_,rfl⟩⟩
  rcases key _ rfl with⟨s,e⟩ | ⟨e0,e⟩
  ·rw [e]
   exact .inl ⟨_,rfl,⟨by simp only;omega,by simp only [List.length_append,List.length_singleton];omega,by simp only;omega⟩,by simp only;omega⟩
  ·rw [e];exact .inr ⟨_,rfl,Nat.zero_le _⟩
 ·rw [dA hj,cond_false]
  exact .inr ⟨_,rfl,by simp only;omega⟩
theorem aP8 {l:gU} {o:tE} (hsl:∀j:Nat,(o.2.2.getD j dF).length<=10000)(i j:Int):kP l o i j=kQ l o i j:=by
 unfold kP kQ
 rw [uM]
 cases h0:((fX l ((o.1.1,o.1.2),o.2.1,o.2.2):Int) != 0) with
 | true=>rfl
 | false =>
  have e:=(aJt (aJs (o:=((o.1.1,o.1.2),o.2.1,o.2.2)) (bne_eq_false_iff_eq.1 h0) hsl)).1
  rw [e];rfl
theorem aP9 {l:gU} {o:tE} (hsl:∀j:Nat,(o.2.2.getD j dF).length<=10000):aUd l o=aL0 l o:=by
 unfold aUd aL0
 rw [uM]
 cases h0:((fX l ((o.1.1,o.1.2),o.2.1,o.2.2):Int) != 0) with
 | true=>rfl
 | false =>
  have hr:=bne_eq_false_iff_eq.1 h0
  obtain⟨e,hv⟩:=aJt (aJs (o:=((o.1.1,o.1.2),o.2.1,o.2.2)) hr hsl)
  obtain⟨hch,_⟩:=uH (aJq hr).1.chk
  rw [e,aUc hv hch.1 (fun i hi=>(hch.2 i hi).2)]
theorem qP {l:gU} {o:tE} (hsl:∀j:Nat,(o.2.2.getD j dF).length<=10000):(aUd l o).1.length<=l.length/\(aL0 l o).1.length<=l.length:=by
 rw [aP9 hsl]
 refine⟨?_,?_⟩ <;>
 ·unfold aL0
  cases ((fX l ((o.1.1,o.1.2),o.2.1,o.2.2):Int) != 0) with
  | true=>exact Nat.zero_le _
  | false=>exact aSc
def uN (a0:bT)(a1:(List Int×bE)×(List (Int×Int×Bool))×List (List (Int×Int)))(a2:Int×Int):Bool :=
 (bif (aCe a0) then
  F7
 else
  (bif (F6 ((a1.1.1,a1.1.2),a1.2.1,a1.2.2)) then
   F7
  else
   (bif ((((kP a0 ((a1.1.1,a1.1.2),a1.2.1,a1.2.2) a2.1 a2.2).1.1:Int) == (kQ a0 ((a1.1.1,a1.1.2),a1.2.1,a1.2.2) a2.1 a2.2).1.1)&&((((kP a0 ((a1.1.1,a1.1.2),a1.2.1,a1.2.2) a2.1 a2.2).1.2:Int) == (kQ a0 ((a1.1.1,a1.1.2),a1.2.1,a1.2.2) a2.1 a2.2).1.2)&&true)) then
    (bif (((kP a0 ((a1.1.1,a1.1.2),a1.2.1,a1.2.2) a2.1 a2.2).2:Int) == (kQ a0 ((a1.1.1,a1.1.2),a1.2.1,a1.2.2) a2.1 a2.2).2) then
     (bif (((F15 ((a1.1.1,a1.1.2),a1.2.1,a1.2.2)):Int) == (F16 ((a1.1.1,a1.1.2),a1.2.1,a1.2.2))) then
      F7
     else
      false)
    else
     false)
   else
    false)))
theorem aWw (a0:bT)(a1:(List Int×bE)×(List (Int×Int×Bool))×List (List (Int×Int)))(a2:Int×Int)(l0:a0.length<=2^63-1)(l1_1_1:a1.1.1.length<=2^63-1)(l1_1_2:a1.1.2.length<=2^63-1)(l1_2_1:a1.2.1.length<=2^63-1)(l1_2_2:a1.2.2.length<=2^63-1):Con Tryz.prog 4 [(.s 0 0 a0.length 10),(.a [(.s 1 0 a1.1.1.length 1),(.s 2 0 a1.1.2.length 8),(.s 3 0 a1.2.1.length 3),(.s 4 0 a1.2.2.length 1)]),(.a [(iv a2.1),(iv a2.2)])] [(.live false true (flat dI a0)),(.live false true (flat c3 a1.1.1)),(.live false true (flat bZ a1.1.2)),(.live false true (flat eS a1.2.1)),(.live false true (flat jM a1.2.2))] (.v (.bool (uN a0 a1 a2))) []:=by
 refine bA Tryz.func4 (by kernel_rfl) fun cx hcx=>?_
 let t0:List (St Tryz.prog):=[.c [0] (aWs a0 (by omega))]
 cases h0:(aCe a0) with
 | true =>
  have e:=Eq.refl (uN a0 a1 a2);conv at e=>rhs;simp only [uN,h0,aW]
  rw [e]
  exact rt (t0++[.d h0,.c [] (C7)]) [] [] hcx (by kernel_rfl)
 | false =>
  let t1:List (St Tryz.prog):=(t0++[.d h0,.c [1,2,3,4] (C6 ((a1.1.1,a1.1.2),a1.2.1,a1.2.2) (by omega) (by omega) (by omega) (by omega))])
  cases h1:(F6 ((a1.1.1,a1.1.2),a1.2.1,a1.2.2)) with
  | true =>
   have e:=Eq.refl (uN a0 a1 a2);conv at e=>rhs;simp only [uN,h0,h1,aW]
   rw [e]
   exact rt (t1++[.d h1,.c [] (C7)]) [] [] hcx (by kernel_rfl)
  | false =>
   try have hsl:=rY h1
   try have hln:=(fun _=>qP (l:=a0) (o:=((a1.1.1,a1.1.2),a1.2.1,a1.2.2)) hsl) h1
   let t2:List (St Tryz.prog):=(t1++[.d h1,.c [1,2,3,4] (C9 ((a1.1.1,a1.1.2),a1.2.1,a1.2.2) (by omega) (by omega) (by omega) (by omega)),.c [0,1,2,3,4] (aWa a0 ((a1.1.1,a1.1.2),a1.2.1,a1.2.2) a2.1 a2.2 (by omega) (by omega) (by omega) (by omega) (by omega) hsl),.c [1,2,3,4] (C11 ((a1.1.1,a1.1.2),a1.2.1,a1.2.2) (by omega) (by omega) (by omega) (by omega)),.c [0,1,2,3,4] (aWb a0 ((a1.1.1,a1.1.2),a1.2.1,a1.2.2) a2.1 a2.2 (by omega) (by omega) (by omega) (by omega) (by omega) hsl)])
   cases h2:((((kP a0 ((a1.1.1,a1.1.2),a1.2.1,a1.2.2) a2.1 a2.2).1.1:Int) == (kQ a0 ((a1.1.1,a1.1.2),a1.2.1,a1.2.2) a2.1 a2.2).1.1)&&((((kP a0 ((a1.1.1,a1.1.2),a1.2.1,a1.2.2) a2.1 a2.2).1.2:Int) == (kQ a0 ((a1.1.1,a1.1.2),a1.2.1,a1.2.2) a2.1 a2.2).1.2)&&true)) with
   | true =>
    try have hsl:=rY h1
    try have hln:=(fun _=>qP (l:=a0) (o:=((a1.1.1,a1.1.2),a1.2.1,a1.2.2)) hsl) h1
    let t3:List (St Tryz.prog):=(t2++[.d h2])
    cases h3:(((kP a0 ((a1.1.1,a1.1.2),a1.2.1,a1.2.2) a2.1 a2.2).2:Int) == (kQ a0 ((a1.1.1,a1.1.2),a1.2.1,a1.2.2) a2.1 a2.2).2) with
    | true =>
     have q3:=eq_of_beq h3
     try have hsl:=rY h1
     try have hln:=(fun _=>qP (l:=a0) (o:=((a1.1.1,a1.1.2),a1.2.1,a1.2.2)) hsl) h1
     let t4:List (St Tryz.prog):=(t3++[.d h3,.c [1,2,3,4] (C9 ((a1.1.1,a1.1.2),a1.2.1,a1.2.2) (by omega) (by omega) (by omega) (by omega)),.c [1,2,3,4] (C15 ((a1.1.1,a1.1.2),a1.2.1,a1.2.2) (by omega) (by omega) (by omega) (by omega)),.c [1,2,3,4] (C11 ((a1.1.1,a1.1.2),a1.2.1,a1.2.2) (by omega) (by omega) (by omega) (by omega)),.c [1,2,3,4] (C16 ((a1.1.1,a1.1.2),a1.2.1,a1.2.2) (by omega) (by omega) (by omega) (by omega))])
     cases h4:(((F15 ((a1.1.1,a1.1.2),a1.2.1,a1.2.2)):Int) == (F16 ((a1.1.1,a1.1.2),a1.2.1,a1.2.2))) with
     | true =>
      have q4:=eq_of_beq h4
      try have hsl:=rY h1
      try have hln:=(fun _=>qP (l:=a0) (o:=((a1.1.1,a1.1.2),a1.2.1,a1.2.2)) hsl) h1
      have e:=Eq.refl (uN a0 a1 a2);conv at e=>rhs;simp only [uN,h0,h1,h2,h3,h4,aW]
      rw [e]
      exact rt (t4++[.d h4,.c [] (C7)]) [] [] hcx (by kernel_rfl)
     | false =>
      have q4:=ne_of_beq_false h4
      try have hsl:=rY h1
      try have hln:=(fun _=>qP (l:=a0) (o:=((a1.1.1,a1.1.2),a1.2.1,a1.2.2)) hsl) h1
      have e:=Eq.refl (uN a0 a1 a2);conv at e=>rhs;simp only [uN,h0,h1,h2,h3,h4,aW]
      rw [e]
      exact rt (t4++[.d h4]) [] [] hcx (by kernel_rfl)
    | false =>
     have q3:=ne_of_beq_false h3
     try have hsl:=rY h1
     try have hln:=(fun _=>qP (l:=a0) (o:=((a1.1.1,a1.1.2),a1.2.1,a1.2.2)) hsl) h1
     have e:=Eq.refl (uN a0 a1 a2);conv at e=>rhs;simp only [uN,h0,h1,h2,h3,aW]
     rw [e]
     exact rt (t3++[.d h3]) [] [] hcx (by kernel_rfl)
   | false =>
    try have hsl:=rY h1
    try have hln:=(fun _=>qP (l:=a0) (o:=((a1.1.1,a1.1.2),a1.2.1,a1.2.2)) hsl) h1
    have e:=Eq.refl (uN a0 a1 a2);conv at e=>rhs;simp only [uN,h0,h1,h2,aW]
    rw [e]
    exact rt (t2++[.d h2]) [] [] hcx (by kernel_rfl)
theorem aHr (l:gU)(k:tE)(p:Int×Int):uN l k p=true:=by
 unfold uN
 rw [aTs]
 cases h:(aCe l) with
 | true=>rfl
 | false =>
  rw [cond_false]
  cases h1:F6 ((k.1.1,k.1.2),k.2.1,k.2.2) with
  | true=>rfl
  | false =>
   rw [cond_false,aP8 (o:=((k.1.1,k.1.2),k.2.1,k.2.2)) (rY h1),show F15 ((k.1.1,k.1.2),k.2.1,k.2.2)=F16 ((k.1.1,k.1.2),k.2.1,k.2.2) from rfl]
   simp only [beq_self_eq_true,Bool.and_self,cond_true]
end Go.Proofs.YtkdfcbmcgnaicaaGreat
