/-
  Parts of the proofs of the laws: the executor, what functions of the program compute, and that it is what the statements ask. No premise.
-/
import Derived.Test.YtkdfcbmcgnaicaaGreatVPap7
import Derived.ProofKit
import Derived.OpenShut
set_option linter.unusedVariables false
set_option linter.unusedSimpArgs false
set_option maxHeartbeats 4000000
open Int renaming toNat → tN
open Inhabited renaming default → dF
namespace Go.Proofs.YtkdfcbmcgnaicaaGreat
open Go.Proofs Go.Aw Go.RowKit
set_option maxRecDepth 100000
noncomputable def aH1:Code:=(cC [1,1,0,1,0,0,1,1] [0] (aL Tryz.f26)).1
noncomputable def aH2 (m0:Nat):List K:=(cC [1,1,0,1,0,0,1,1] [m0] (aL Tryz.f26)).2
def aDj (a0:bO)(a1:(List Int×bF)×(List (Int×Int×Bool))×List (List (Int×Int)))(v8c:List SV)(v8n:Nat)(v9:Int):LS:=⟨gD 104 [(0,(.s 0 0 a0.length 10)),(3,(.p 5 0)),(5,(.s 6 0 v8n 1)),(6,(iv v9))],[(.live false true (flat dC a0)),(.live false true (flat c3 a1.1.1)),(.live false true (flat cB a1.1.2)),(.live false true (flat fC a1.2.1)),(.live false true (flat jM a1.2.2)),(.live true false [(.s 1 0 a1.1.1.length 1),(.s 2 0 a1.1.2.length 8),(.s 3 0 a1.2.1.length 3),(.s 4 0 a1.2.2.length 1)]),(.live true true v8c)]⟩
def pN (a0:bO)(a1:(List Int×bF)×(List (Int×Int×Bool))×List (List (Int×Int))):(List (List (Int×Int)))×Int->((List (List (Int×Int)))×Int)⊕(List (List (Int×Int)))
 | (v8,v9) =>
  (.inl (v8,(v9+1)))
noncomputable def aCe:Code:=(cC [1,1,0,1,0,0,1,0,0] [0] (aL Tryz.f26)).1
noncomputable def aH3 (m0:Nat):List K:=(cC [1,1,0,1,0,0,1,0,0] [m0] (aL Tryz.f26)).2
def aDk (a0:bO)(a1:(List Int×bF)×(List (Int×Int×Bool))×List (List (Int×Int)))(v6c:List SV)(v6n:Nat)(v7:Int):LS:=⟨gD 104 [(0,(.s 0 0 a0.length 10)),(3,(.p 5 0)),(5,(.s 6 0 v6n 1)),(6,(iv v7))],[(.live false true (flat dC a0)),(.live false true (flat c3 a1.1.1)),(.live false true (flat cB a1.1.2)),(.live false true (flat fC a1.2.1)),(.live false true (flat jM a1.2.2)),(.live true false [(.s 1 0 a1.1.1.length 1),(.s 2 0 a1.1.2.length 8),(.s 3 0 a1.2.1.length 3),(.s 4 0 a1.2.2.length 1)]),(.live true true v6c)]⟩
def pO (a0:bO)(a1:(List Int×bF)×(List (Int×Int×Bool))×List (List (Int×Int))):(List (List (Int×Int)))×Int->((List (List (Int×Int)))×Int)⊕(List (List (Int×Int)))
 | (v6,v7) =>
  (pN a0 a1 ((v6++[List.replicate a0.length (0,0)]),v7))
noncomputable def aDl:Code:=(cC [1,1,1,0,1,0,0,1,0,0,1,1,1,0,0,1,0,0,1,0,0,1,0,0,1,0] [0,0,0] (aL Tryz.f26)).1
noncomputable def aDm (m0:Nat)(m1:Nat)(m2:Nat):List K:=(cC [1,1,1,0,1,0,0,1,0,0,1,1,1,0,0,1,0,0,1,0,0,1,0,0,1,0] [m0,m1,m2] (aL Tryz.f26)).2
def aCf (a0:bO)(a1:(List Int×bF)×(List (Int×Int×Bool))×List (List (Int×Int)))(v176c:List SV)(v176n:Nat)(v177 v178 v179 v180 v181 v182 v183 v184 v185 v186 v187 v188 v189 v190 v191 v192 v193 v194 v195 v196:Int):LS:=⟨gD 104 [(3,(.p 5 0)),(5,(.s 6 0 v176n 1)),(7,(iv v177)),(8,(.p 7 0)),(9,(.p 8 0)),(10,(iv v178)),(11,(iv v179)),(12,(iv v180))],[(.live false true (flat dC a0)),(.live false true (flat c3 a1.1.1)),(.live false true (flat cB a1.1.2)),(.live false true (flat fC a1.2.1)),(.live false true (flat jM a1.2.2)),(.live true false [(.s 1 0 a1.1.1.length 1),(.s 2 0 a1.1.2.length 8),(.s 3 0 a1.2.1.length 3),(.s 4 0 a1.2.2.length 1)]),(.live true true v176c),(.live true false [(iv v181),(iv v182),(iv v183),(iv v184),(iv v185),(iv v186),(iv v187),(iv v188)]),(.live true false [(iv v189),(iv v190),(iv v191),(iv v192),(iv v193),(iv v194),(iv v195),(iv v196)])]⟩
def kC (a0:bO)(a1:(List Int×bF)×(List (Int×Int×Bool))×List (List (Int×Int))):(List (List (Int×Int)))×Int×Int×Int×Int×Int×Int×Int×Int×Int×Int×Int×Int×Int×Int×Int×Int×Int×Zt->((List (List (Int×Int)))×Int×Int×Int×Int×Int×Int×Int×Int×Int×Int×Int×Int×Int×Int×Int×Int×Int×Zt)⊕(((List (List (Int×Int)))×Int×Int×Int×Int×Int×Int×Int×Int×Int×Int×Int×Int×Int×Int×Int×Int×Zt)⊕(((List (List (Int×Int)))×Int)⊕(List (List (Int×Int)))))
 | (v176,v177,v178,v179,v180,v181,v182,v183,v184,v185,v186,v187,v188,v189,v190,v191,v192,v193,v194,v195,v196) =>
  (bif (!(a1.2.1.getD (tN v177) dF).2.2) then
   (.inl (v176,v177,(W (v178+1)),v179,(v180+1),v181,v182,v183,v184,v185,v186,v187,v188,v189,v190,v191,v192,v193,v194,v195,v196))
  else
   (.inl (v176,v177,v178,v179,(v180+1),v181,v182,v183,v184,v185,v186,v187,v188,v189,v190,v191,v192,v193,v194,v195,v196)))
noncomputable def yD:Code:=(cC [1,1,1,0,1,0,0,1,0,0,1,1,1,0,0,1,0,0,1,0,0,1,0,0,0] [0,0,0] (aL Tryz.f26)).1
noncomputable def aDn (m0:Nat)(m1:Nat)(m2:Nat):List K:=(cC [1,1,1,0,1,0,0,1,0,0,1,1,1,0,0,1,0,0,1,0,0,1,0,0,0] [m0,m1,m2] (aL Tryz.f26)).2
def aCg (a0:bO)(a1:(List Int×bF)×(List (Int×Int×Bool))×List (List (Int×Int)))(v155c:List SV)(v155n:Nat)(v156 v157 v158 v159 v160 v161 v162 v163 v164 v165 v166 v167 v168 v169 v170 v171 v172 v173 v174 v175:Int):LS:=⟨gD 104 [(3,(.p 5 0)),(5,(.s 6 0 v155n 1)),(7,(iv v156)),(8,(.p 7 0)),(9,(.p 8 0)),(10,(iv v157)),(11,(iv v158)),(12,(iv v159))],[(.live false true (flat dC a0)),(.live false true (flat c3 a1.1.1)),(.live false true (flat cB a1.1.2)),(.live false true (flat fC a1.2.1)),(.live false true (flat jM a1.2.2)),(.live true false [(.s 1 0 a1.1.1.length 1),(.s 2 0 a1.1.2.length 8),(.s 3 0 a1.2.1.length 3),(.s 4 0 a1.2.2.length 1)]),(.live true true v155c),(.live true false [(iv v160),(iv v161),(iv v162),(iv v163),(iv v164),(iv v165),(iv v166),(iv v167)]),(.live true false [(iv v168),(iv v169),(iv v170),(iv v171),(iv v172),(iv v173),(iv v174),(iv v175)])]⟩
def nA (a0:bO)(a1:(List Int×bF)×(List (Int×Int×Bool))×List (List (Int×Int))):(List (List (Int×Int)))×Int×Int×Int×Int×Int×Int×Int×Int×Int×Int×Int×Int×Int×Int×Int×Int×Int×Zt->((List (List (Int×Int)))×Int×Int×Int×Int×Int×Int×Int×Int×Int×Int×Int×Int×Int×Int×Int×Int×Int×Zt)⊕(((List (List (Int×Int)))×Int×Int×Int×Int×Int×Int×Int×Int×Int×Int×Int×Int×Int×Int×Int×Int×Zt)⊕(((List (List (Int×Int)))×Int)⊕(List (List (Int×Int)))))
 | (v155,v156,v157,v158,v159,v160,v161,v162,v163,v164,v165,v166,v167,v168,v169,v170,v171,v172,v173,v174,v175) =>
  (kC a0 a1 ((v155.set (tN (a1.1.1.getD (tN v158) dF)) ((v155.getD (tN (a1.1.1.getD (tN v158) dF)) []).set (tN (a1.1.1.getD (tN v159) dF)) ((a1.2.2.getD (tN v156) dF).getD (tN v157) dF))),v156,v157,v158,v159,v160,v161,v162,v163,v164,v165,v166,v167,v168,v169,v170,v171,v172,v173,v174,v175))
noncomputable def zZ:Code:=(aM [1,1,1,0,1,0,1,0,1,1,1,0,1,0,1] [0,0] (aL Tryz.f26) []).1
noncomputable def aAa (m0:Nat)(m1:Nat):List K:=(aM [1,1,1,0,1,0,1,0,1,1,1,0,1,0,1] [m0,m1] (aL Tryz.f26) []).2
def wI (a0:bO)(a1:(List Int×bF)×(List (Int×Int×Bool))×List (List (Int×Int)))(v134c:List SV)(v134n:Nat)(v135 v136 v137 v138 v139 v140 v141 v142 v143 v144 v145 v146 v147 v148 v149 v150 v151 v152 v153 v154:Int):LS:=⟨gD 104 [(3,(.p 5 0)),(5,(.s 6 0 v134n 1)),(7,(iv v135)),(8,(.p 7 0)),(9,(.p 8 0)),(10,(iv v136)),(11,(iv v137)),(12,(iv v138))],[(.live false true (flat dC a0)),(.live false true (flat c3 a1.1.1)),(.live false true (flat cB a1.1.2)),(.live false true (flat fC a1.2.1)),(.live false true (flat jM a1.2.2)),(.live true false [(.s 1 0 a1.1.1.length 1),(.s 2 0 a1.1.2.length 8),(.s 3 0 a1.2.1.length 3),(.s 4 0 a1.2.2.length 1)]),(.live true true v134c),(.live true false [(iv v139),(iv v140),(iv v141),(iv v142),(iv v143),(iv v144),(iv v145),(iv v146)]),(.live true false [(iv v147),(iv v148),(iv v149),(iv v150),(iv v151),(iv v152),(iv v153),(iv v154)])]⟩
def iB (a0:bO)(a1:(List Int×bF)×(List (Int×Int×Bool))×List (List (Int×Int))):(List (List (Int×Int)))×Int×Int×Int×Int×Int×Int×Int×Int×Int×Int×Int×Int×Int×Int×Int×Int×Int×Zt->((List (List (Int×Int)))×Int×Int×Int×Int×Int×Int×Int×Int×Int×Int×Int×Int×Int×Int×Int×Int×Int×Zt)⊕(((List (List (Int×Int)))×Int×Int×Int×Int×Int×Int×Int×Int×Int×Int×Int×Int×Int×Int×Int×Int×Zt)⊕(((List (List (Int×Int)))×Int)⊕(List (List (Int×Int)))))
 | (v134,v135,v136,v137,v138,v139,v140,v141,v142,v143,v144,v145,v146,v147,v148,v149,v150,v151,v152,v153,v154) =>
  (bif (decide ((v138:Int) < v148)) then
   (nA a0 a1 (v134,v135,v136,v137,v138,v139,v140,v141,v142,v143,v144,v145,v146,v147,v148,v149,v150,v151,v152,v153,v154))
  else
   (.inr (.inl (v134,v135,v136,(v137+1),v139,v140,v141,v142,v143,v144,v145,v146,v147,v148,v149,v150,v151,v152,v153,v154))))
noncomputable def aFz:Code:=(aM [1,1,1,0,1,0,1,0,1,1,1] [0] (aL Tryz.f26) []).1
noncomputable def aF0 (m0:Nat):List K:=(aM [1,1,1,0,1,0,1,0,1,1,1] [m0] (aL Tryz.f26) []).2
def aCh (a0:bO)(a1:(List Int×bF)×(List (Int×Int×Bool))×List (List (Int×Int)))(v114c:List SV)(v114n:Nat)(v115 v116 v117 v118 v119 v120 v121 v122 v123 v124 v125 v126 v127 v128 v129 v130 v131 v132 v133:Int):LS:=⟨gD 104 [(3,(.p 5 0)),(5,(.s 6 0 v114n 1)),(7,(iv v115)),(8,(.p 7 0)),(9,(.p 8 0)),(10,(iv v116)),(11,(iv v117))],[(.live false true (flat dC a0)),(.live false true (flat c3 a1.1.1)),(.live false true (flat cB a1.1.2)),(.live false true (flat fC a1.2.1)),(.live false true (flat jM a1.2.2)),(.live true false [(.s 1 0 a1.1.1.length 1),(.s 2 0 a1.1.2.length 8),(.s 3 0 a1.2.1.length 3),(.s 4 0 a1.2.2.length 1)]),(.live true true v114c),(.live true false [(iv v118),(iv v119),(iv v120),(iv v121),(iv v122),(iv v123),(iv v124),(iv v125)]),(.live true false [(iv v126),(iv v127),(iv v128),(iv v129),(iv v130),(iv v131),(iv v132),(iv v133)])]⟩
def gL (a0:bO)(a1:(List Int×bF)×(List (Int×Int×Bool))×List (List (Int×Int))):(List (List (Int×Int)))×Int×Int×Int×Int×Int×Int×Int×Int×Int×Int×Int×Int×Int×Int×Int×Int×Zt->((List (List (Int×Int)))×Int×Int×Int×Int×Int×Int×Int×Int×Int×Int×Int×Int×Int×Int×Int×Int×Zt)⊕(((List (List (Int×Int)))×Int)⊕(List (List (Int×Int))))
 | (v114,v115,v116,v117,v118,v119,v120,v121,v122,v123,v124,v125,v126,v127,v128,v129,v130,v131,v132,v133) =>
  (bif (decide ((v117:Int) < v119)) then
   (aH (iB a0 a1) (tN (v127 - v126)+1) (v114,v115,v116,v117,v126,v118,v119,v120,v121,v122,v123,v124,v125,v126,v127,v128,v129,v130,v131,v132,v133))
  else
   (.inr (.inl (v114,(v115+1)))))
noncomputable def aDo:Code:=(cC [1,1,1,1,0] [] (aL Tryz.f26)).1
noncomputable def aDp:List K:=(cC [1,1,1,1,0] [] (aL Tryz.f26)).2
def aCi (a0:bO)(a1:(List Int×bF)×(List (Int×Int×Bool))×List (List (Int×Int)))(v197c:List SV)(v197n:Nat):LS:=⟨gD 104 [(5,(.s 5 0 v197n 1))],[(.live false true (flat dC a0)),(.live false true (flat c3 a1.1.1)),(.live false true (flat cB a1.1.2)),(.live false true (flat fC a1.2.1)),(.live false true (flat jM a1.2.2)),(.live true true v197c)]⟩
def pP (a0:bO)(a1:(List Int×bF)×(List (Int×Int×Bool))×List (List (Int×Int))):List (List (Int×Int))->List (List (Int×Int))
 | v197 =>
  v197
noncomputable def aF1:Code:=(aM [1,1,1,0,1] [] (aL Tryz.f26) []).1
noncomputable def aF2:List K:=(aM [1,1,1,0,1] [] (aL Tryz.f26) []).2
def aCj (a0:bO)(a1:(List Int×bF)×(List (Int×Int×Bool))×List (List (Int×Int)))(v12c:List SV)(v12n:Nat)(v13:Int):LS:=⟨gD 104 [(3,(.p 5 0)),(5,(.s 6 0 v12n 1)),(7,(iv v13))],[(.live false true (flat dC a0)),(.live false true (flat c3 a1.1.1)),(.live false true (flat cB a1.1.2)),(.live false true (flat fC a1.2.1)),(.live false true (flat jM a1.2.2)),(.live true false [(.s 1 0 a1.1.1.length 1),(.s 2 0 a1.1.2.length 8),(.s 3 0 a1.2.1.length 3),(.s 4 0 a1.2.2.length 1)]),(.live true true v12c)]⟩
def fR (a0:bO)(a1:(List Int×bF)×(List (Int×Int×Bool))×List (List (Int×Int))):(List (List (Int×Int)))×Int->((List (List (Int×Int)))×Int)⊕(List (List (Int×Int)))
 | (v12,v13) =>
  (bif (decide ((v13:Int) < (a1.2.1.length:Int))) then
   (aH (gL a0 a1) (tN ((a1.1.2.getD (tN (a1.2.1.getD (tN v13) dF).1) dF).2.1 - (a1.1.2.getD (tN (a1.2.1.getD (tN v13) dF).1) dF).1)+1) (v12,v13,0,(a1.1.2.getD (tN (a1.2.1.getD (tN v13) dF).1) dF).1,(a1.1.2.getD (tN (a1.2.1.getD (tN v13) dF).1) dF).1,(a1.1.2.getD (tN (a1.2.1.getD (tN v13) dF).1) dF).2.1,(a1.1.2.getD (tN (a1.2.1.getD (tN v13) dF).1) dF).2.2.1,(a1.1.2.getD (tN (a1.2.1.getD (tN v13) dF).1) dF).2.2.2.1,(a1.1.2.getD (tN (a1.2.1.getD (tN v13) dF).1) dF).2.2.2.2.1.1,(a1.1.2.getD (tN (a1.2.1.getD (tN v13) dF).1) dF).2.2.2.2.1.2.1,(a1.1.2.getD (tN (a1.2.1.getD (tN v13) dF).1) dF).2.2.2.2.1.2.2,(a1.1.2.getD (tN (a1.2.1.getD (tN v13) dF).1) dF).2.2.2.2.2,(a1.1.2.getD (tN (a1.2.1.getD (tN v13) dF).2.1) dF).1,(a1.1.2.getD (tN (a1.2.1.getD (tN v13) dF).2.1) dF).2.1,(a1.1.2.getD (tN (a1.2.1.getD (tN v13) dF).2.1) dF).2.2.1,(a1.1.2.getD (tN (a1.2.1.getD (tN v13) dF).2.1) dF).2.2.2.1,(a1.1.2.getD (tN (a1.2.1.getD (tN v13) dF).2.1) dF).2.2.2.2.1.1,(a1.1.2.getD (tN (a1.2.1.getD (tN v13) dF).2.1) dF).2.2.2.2.1.2.1,(a1.1.2.getD (tN (a1.2.1.getD (tN v13) dF).2.1) dF).2.2.2.2.1.2.2,(a1.1.2.getD (tN (a1.2.1.getD (tN v13) dF).2.1) dF).2.2.2.2.2))
  else
   (.inr (pP a0 a1 v12)))
noncomputable def aF3:Code:=(aM [1,1,0,1] [] (aL Tryz.f26) []).1
noncomputable def aF4:List K:=(aM [1,1,0,1] [] (aL Tryz.f26) []).2
def aCk (a0:bO)(a1:(List Int×bF)×(List (Int×Int×Bool))×List (List (Int×Int)))(v4c:List SV)(v4n:Nat)(v5:Int):LS:=⟨gD 104 [(0,(.s 0 0 a0.length 10)),(3,(.p 5 0)),(5,(.s 6 0 v4n 1)),(6,(iv v5))],[(.live false true (flat dC a0)),(.live false true (flat c3 a1.1.1)),(.live false true (flat cB a1.1.2)),(.live false true (flat fC a1.2.1)),(.live false true (flat jM a1.2.2)),(.live true false [(.s 1 0 a1.1.1.length 1),(.s 2 0 a1.1.2.length 8),(.s 3 0 a1.2.1.length 3),(.s 4 0 a1.2.2.length 1)]),(.live true true v4c)]⟩
def iC (a0:bO)(a1:(List Int×bF)×(List (Int×Int×Bool))×List (List (Int×Int))):(List (List (Int×Int)))×Int->((List (List (Int×Int)))×Int)⊕(List (List (Int×Int)))
 | (v4,v5) =>
  (bif (decide ((v5:Int) < (a0.length:Int))) then
   (pO a0 a1 (v4,v5))
  else
   (.inr (aH (fR a0 a1) (tN ((a1.2.1.length:Int) - 0)+1) (v4,0))))
def aF5 (a0:bO)(a1:(List Int×bF)×(List (Int×Int×Bool))×List (List (Int×Int)))(cx:Cx)(n0:Nat)(n1:Nat)(n:Nat):Prop:=∀(v134:List (List (Int×Int))) (v135 v136 v137 v138 v139 v140 v141 v142 v143 v144 v145 v146 v147 v148 v149 v150 v151 v152 v153 v154:Int) (vT:List (Option iK)) (tr:TabR eW a0.length vT v134),(0<=v138)/\(TL a0.length v134 a0.length)/\(zI v136 (a1.2.1.getD (tN v135) dF).2.2 (v137 - v139) (v148 - v147) (v138 - v147))/\(v147<=v138)/\(v138<=v148)/\((0<=v135))/\((v135<=(a1.2.1.length:Int)))/\(v135 < (a1.2.1.length:Int))/\(tN ((a1.2.1.length:Int) - v135) < n0+1)/\((0<=v137))/\(((((a1.2.2.getD (tN v135) dF).length:Nat):Int)=bif (a1.2.1.getD (tN v135) dF).2.2 then 1 else(v140 - v139)*(v148 - v147)))/\((v139<=v137))/\((v137<=v140))/\((0<=v139))/\((v140<=a1.1.1.length))/\((0<=v147))/\((v147<=v148))/\((v148<=a1.1.1.length))/\(v137 < v140)/\(tN (v140 - v137) < n1+1)->tN (v148 - v138) < n->Aw.GoodT Tryz.prog none 9 (bodyPost Tryz.prog Tryz.f26 (RR cx (.s 5 0 (bA (fR a0 a1) n0 (bA (gL a0 a1) n1 (aH (iB a0 a1) n (v134,v135,v136,v137,v138,v139,v140,v141,v142,v143,v144,v145,v146,v147,v148,v149,v150,v151,v152,v153,v154)))).length 1) [(.live true true (flat jM (bA (fR a0 a1) n0 (bA (gL a0 a1) n1 (aH (iB a0 a1) n (v134,v135,v136,v137,v138,v139,v140,v141,v142,v143,v144,v145,v146,v147,v148,v149,v150,v151,v152,v153,v154))))))] [])) cx [] a0.length 2 vT (.l zZ n::aAa n0 n1) (wI a0 a1 (flat (cO a0.length) vT) (vT.length) v135 v136 v137 v138 v139 v140 v141 v142 v143 v144 v145 v146 v147 v148 v149 v150 v151 v152 v153 v154)
def aAb (a0:bO)(a1:(List Int×bF)×(List (Int×Int×Bool))×List (List (Int×Int)))(cx:Cx)(n0:Nat)(n:Nat):Prop:=∀(v114:List (List (Int×Int))) (v115 v116 v117 v118 v119 v120 v121 v122 v123 v124 v125 v126 v127 v128 v129 v130 v131 v132 v133:Int) (vT:List (Option iK)) (tr:TabR eW a0.length vT v114),(0<=v117)/\(TL a0.length v114 a0.length)/\(zI v116 (a1.2.1.getD (tN v115) dF).2.2 (v117 - v118) (v127 - v126) 0)/\((((a1.2.2.getD (tN v115) dF).length:Nat):Int)=bif (a1.2.1.getD (tN v115) dF).2.2 then 1 else(v119 - v118)*(v127 - v126))/\(v118<=v117)/\(v117<=v119)/\(0<=v118)/\(v119<=a1.1.1.length)/\(0<=v126)/\(v126<=v127)/\(v127<=a1.1.1.length)/\((0<=v115))/\((v115<=(a1.2.1.length:Int)))/\(v115 < (a1.2.1.length:Int))/\(tN ((a1.2.1.length:Int) - v115) < n0+1)->tN (v119 - v117) < n->Aw.GoodT Tryz.prog none 9 (bodyPost Tryz.prog Tryz.f26 (RR cx (.s 5 0 (bA (fR a0 a1) n0 (aH (gL a0 a1) n (v114,v115,v116,v117,v118,v119,v120,v121,v122,v123,v124,v125,v126,v127,v128,v129,v130,v131,v132,v133))).length 1) [(.live true true (flat jM (bA (fR a0 a1) n0 (aH (gL a0 a1) n (v114,v115,v116,v117,v118,v119,v120,v121,v122,v123,v124,v125,v126,v127,v128,v129,v130,v131,v132,v133)))))] [])) cx [] a0.length 2 vT (.l aFz n::aF0 n0) (aCh a0 a1 (flat (cO a0.length) vT) (vT.length) v115 v116 v117 v118 v119 v120 v121 v122 v123 v124 v125 v126 v127 v128 v129 v130 v131 v132 v133)
def wJ (a0:bO)(a1:(List Int×bF)×(List (Int×Int×Bool))×List (List (Int×Int)))(cx:Cx)(n:Nat):Prop:=∀(v12:List (List (Int×Int))) (v13:Int) (vT:List (Option iK)) (tr:TabR eW a0.length vT v12),(0<=v13)/\(TL a0.length v12 a0.length)/\(v13<=(a1.2.1.length:Int))->tN ((a1.2.1.length:Int) - v13) < n->Aw.GoodT Tryz.prog none 9 (bodyPost Tryz.prog Tryz.f26 (RR cx (.s 5 0 (aH (fR a0 a1) n (v12,v13)).length 1) [(.live true true (flat jM (aH (fR a0 a1) n (v12,v13))))] [])) cx [] a0.length 2 vT (.l aF1 n::aF2) (aCj a0 a1 (flat (cO a0.length) vT) (vT.length) v13)
def aF6 (a0:bO)(a1:(List Int×bF)×(List (Int×Int×Bool))×List (List (Int×Int)))(cx:Cx)(n:Nat):Prop:=∀(v4:List (List (Int×Int))) (v5:Int) (vT:List (Option iK)) (tr:TabR eW a0.length vT v4),(0<=v5)/\(TK a0.length (tN v5) v4)/\(v5<=(a0.length:Int))->tN ((a0.length:Int) - v5) < n->Aw.GoodT Tryz.prog none 9 (bodyPost Tryz.prog Tryz.f26 (RR cx (.s 5 0 (aH (iC a0 a1) n (v4,v5)).length 1) [(.live true true (flat jM (aH (iC a0 a1) n (v4,v5))))] [])) cx [] a0.length 2 vT (.l aF3 n::aF4) (aCk a0 a1 (flat (cO a0.length) vT) (vT.length) v5)
theorem aQi (a0:bO)(a1:(List Int×bF)×(List (Int×Int×Bool))×List (List (Int×Int)))(l0:a0.length<=2^63-1)(l1_1_1:a1.1.1.length<=2^63-1)(l1_1_2:a1.1.2.length<=2^63-1)(l1_2_1:a1.2.1.length<=2^63-1)(l1_2_2:a1.2.2.length<=2^63-1)(he:EntOK a0.length a1) {cx:Cx} (hcx:cx.base=5)
 (n0:Nat) (g0:aF6 a0 a1 cx n0) (v8:List (List (Int×Int))) (v9:Int) (vT:List (Option iK)) (tr:TabR eW a0.length vT v8):(TK a0.length (tN v9+1) v8)/\((0<=v9))/\((v9<=(a0.length:Int)))/\(v9 < (a0.length:Int))/\(tN ((a0.length:Int) - v9) < n0+1)->Aw.GoodT Tryz.prog none 9 (bodyPost Tryz.prog Tryz.f26 (RR cx (.s 5 0 (bA (iC a0 a1) n0 (pN a0 a1 (v8,v9))).length 1) [(.live true true (flat jM (bA (iC a0 a1) n0 (pN a0 a1 (v8,v9)))))] [])) cx [] a0.length 2 vT (.c aH1::aH2 n0) (aDj a0 a1 (flat (cO a0.length) vT) (vT.length) v9):=by
 intro hi
 have hn1:=he.n1
 have htl:=hi.1
 have htl2:=htl.to (k2:=tN (v9+1)) (by omega)
 have e:=Eq.refl (pN a0 a1 (v8,v9));conv at e=>rhs;simp only [pN]
 rw [e]
 refine baT [] [] [0,3,5,6] [5,6] hcx (m:=n0) aF3 (aF4) (aCk a0 a1 (flat (cO a0.length) vT) (vT.length) (W (v9+1))) (by kernel_rfl) ⟨by kernel_rfl,by kernel_rfl⟩ ?_
 have z0:(W (v9+1))=(v9+1):=aS (by omega) (by omega)
 rw [z0]
 exact g0 v8 (v9+1) vT tr (by(repeat' apply And.intro)<;>(try simp only [Int.toNat_zero])<;>first | omega | assumption | exact TK.nil | exact oH) (by omega)
theorem aQj (a0:bO)(a1:(List Int×bF)×(List (Int×Int×Bool))×List (List (Int×Int)))(l0:a0.length<=2^63-1)(l1_1_1:a1.1.1.length<=2^63-1)(l1_1_2:a1.1.2.length<=2^63-1)(l1_2_1:a1.2.1.length<=2^63-1)(l1_2_2:a1.2.2.length<=2^63-1)(he:EntOK a0.length a1) {cx:Cx} (hcx:cx.base=5)
 (n0:Nat) (g0:aF6 a0 a1 cx n0) (v6:List (List (Int×Int))) (v7:Int) (vT:List (Option iK)) (tr:TabR eW a0.length vT v6):(TK a0.length (tN v7) v6)/\((0<=v7))/\((v7<=(a0.length:Int)))/\(v7 < (a0.length:Int))/\(tN ((a0.length:Int) - v7) < n0+1)->Aw.GoodT Tryz.prog none 9 (bodyPost Tryz.prog Tryz.f26 (RR cx (.s 5 0 (bA (iC a0 a1) n0 (pO a0 a1 (v6,v7))).length 1) [(.live true true (flat jM (bA (iC a0 a1) n0 (pO a0 a1 (v6,v7)))))] [])) cx [] a0.length 2 vT (.c aCe::aH3 n0) (aDk a0 a1 (flat (cO a0.length) vT) (vT.length) v7):=by
 intro hi
 have e:=Eq.refl (pO a0 a1 (v6,v7));conv at e=>rhs;simp only [pO]
 rw [e]
 have hn1:=he.n1
 have hvl:=tr.length
 have htl:=hi.1
 have htl0:=htl.1
 have htl1:=htl.next (l:=List.replicate a0.length ((0,0):Int×Int)) (by simp)
 refine GoodT.makeE hT hm (B:=aCe) (by kernel_rfl) 4 (by kernel_rfl) (fun id cap=>vT++[some (id,cap,(flat eW (List.replicate a0.length (0,0))))]) [.Z eW (0,0) [(iv 0),(iv 0)] (a0.length:Int) 16] (fun id cap=>[.p (show(flat (cO a0.length) vT).length=vT.length*1/\vT.length+1<=2 ^ 40/\(vT.length+1)*24<=2 ^ 47 from kG aCd (by omega) (by omega))]) 22 7 vT.length true (flat eW (List.replicate a0.length (0,0))) hcx (by kernel_rfl) ⟨by kernel_rfl,by kernel_rfl⟩ (by kernel_rfl) (by kernel_rfl) (hG (c:=eW) (fun _=>rfl) _) (by rw [bW dM,List.length_replicate]) (by omega) (fun id cap=>by kernel_rfl) (fun id cap=>⟨by kernel_rfl,by kernel_rfl⟩) (fun id cap=>aP2) (fun id cap=>?_)
 refine gaT [.z 4] [] [0,3,5,6] [5,9] hcx aH1 (aH2 n0) (aDj a0 a1 (flat (cO a0.length) vT++[(.v (mE a0.length (id,cap,(flat eW (List.replicate a0.length (0,0))))))]) (vT.length+1) v7) (by kernel_rfl) ⟨by kernel_rfl,by kernel_rfl⟩ ?_
 have tr1:=tr.snoc (id,cap,(flat eW (List.replicate a0.length (0,0)))) (List.replicate a0.length (0,0)) (by simp) rfl
 rw [show(flat (cO a0.length) vT++[(.v (mE a0.length (id,cap,(flat eW (List.replicate a0.length (0,0))))))])=flat (cO a0.length) (vT++[some (id,cap,(flat eW (List.replicate a0.length (0,0))))]) from(aMu (c:=cO a0.length) (l:=vT) (x:=some (id,cap,(flat eW (List.replicate a0.length (0,0)))))).symm]
 rw [show(vT.length+1)=(vT++[some (id,cap,(flat eW (List.replicate a0.length (0,0))))]).length from by simp]
 exact aQi a0 a1 l0 l1_1_1 l1_1_2 l1_2_1 l1_2_2 he hcx n0 g0 (v6++[List.replicate a0.length (0,0)]) v7 (vT++[some (id,cap,(flat eW (List.replicate a0.length (0,0))))]) tr1 (by(repeat' apply And.intro)<;>(try simp only [Int.toNat_zero])<;>first | omega | assumption | exact TK.nil | exact oH)
theorem aNa (a0:bO)(a1:(List Int×bF)×(List (Int×Int×Bool))×List (List (Int×Int)))(l0:a0.length<=2^63-1)(l1_1_1:a1.1.1.length<=2^63-1)(l1_1_2:a1.1.2.length<=2^63-1)(l1_2_1:a1.2.1.length<=2^63-1)(l1_2_2:a1.2.2.length<=2^63-1)(he:EntOK a0.length a1) {cx:Cx} (hcx:cx.base=5)
 (n0:Nat) (g0:wJ a0 a1 cx n0)
 (n1:Nat) (g1:aAb a0 a1 cx n0 n1)
 (n2:Nat) (g2:aF5 a0 a1 cx n0 n1 n2) (v176:List (List (Int×Int))) (v177 v178 v179 v180 v181 v182 v183 v184 v185 v186 v187 v188 v189 v190 v191 v192 v193 v194 v195 v196:Int) (vT:List (Option iK)) (tr:TabR eW a0.length vT v176):(TL a0.length v176 a0.length)/\(zI v178 (a1.2.1.getD (tN v177) dF).2.2 (v179 - v181) (v190 - v189) (v180 - v189))/\((((a1.2.2.getD (tN v177) dF).length:Nat):Int)=bif (a1.2.1.getD (tN v177) dF).2.2 then 1 else(v182 - v181)*(v190 - v189))/\((0<=v177))/\((v177<=(a1.2.1.length:Int)))/\(v177 < (a1.2.1.length:Int))/\(tN ((a1.2.1.length:Int) - v177) < n0+1)/\((0<=v179))/\(((((a1.2.2.getD (tN v177) dF).length:Nat):Int)=bif (a1.2.1.getD (tN v177) dF).2.2 then 1 else(v182 - v181)*(v190 - v189)))/\((v181<=v179))/\((v179<=v182))/\((0<=v181))/\((v182<=a1.1.1.length))/\((0<=v189))/\((v189<=v190))/\((v190<=a1.1.1.length))/\(v179 < v182)/\(tN (v182 - v179) < n1+1)/\((0<=v180))/\((v189<=v180))/\((v180<=v190))/\(v180 < v190)/\(tN (v190 - v180) < n2+1)->Aw.GoodT Tryz.prog none 9 (bodyPost Tryz.prog Tryz.f26 (RR cx (.s 5 0 (bA (fR a0 a1) n0 (bA (gL a0 a1) n1 (bA (iB a0 a1) n2 (kC a0 a1 (v176,v177,v178,v179,v180,v181,v182,v183,v184,v185,v186,v187,v188,v189,v190,v191,v192,v193,v194,v195,v196))))).length 1) [(.live true true (flat jM (bA (fR a0 a1) n0 (bA (gL a0 a1) n1 (bA (iB a0 a1) n2 (kC a0 a1 (v176,v177,v178,v179,v180,v181,v182,v183,v184,v185,v186,v187,v188,v189,v190,v191,v192,v193,v194,v195,v196)))))))] [])) cx [] a0.length 2 vT (.c aDl::aDm n0 n1 n2) (aCf a0 a1 (flat (cO a0.length) vT) (vT.length) v177 v178 v179 v180 v181 v182 v183 v184 v185 v186 v187 v188 v189 v190 v191 v192 v193 v194 v195 v196):=by
 intro hi
 have hnz:=he.nz (by omega)
 have hsl:(((a1.2.2.getD (tN v177) dF).length:Nat):Int)=bif (a1.2.1.getD (tN v177) dF).2.2 then 1 else(v182 - v181)*(v190 - v189):=by have q:=hi;repeat (first | exact q.1 | replace q:=q.2)
 have hn1:=he.n1
 have hsp:=he.sp
 have hol:=he.ol
 have htl:=hi.1
 have hat:=hi.2.1
 have hsb:=he.sl (tN v177)
 have hao:=aL2 hi.2.1 hi.2.2.1 (by omega) (by omega)
 have hw:=aS (n:=v178+1) (by omega) (by omega)
 let t0:List (St Tryz.prog):=[.i v177 (a1.2.1.length),.L eF a1.2.1 v177 2 1]
 cases h0:(!(a1.2.1.getD (tN v177) dF).2.2) with
 | true =>
  try have ha1:zI (W (v178+1)) (a1.2.1.getD (tN v177) dF).2.2 (v179 - v181) (v190 - v189) (v180+1 - v189):=by rw [hw,show v180+1 - v189=v180 - v189+1 from by omega];exact aL3 hi.2.1 h0
  have e:=Eq.refl (kC a0 a1 (v176,v177,v178,v179,v180,v181,v182,v183,v184,v185,v186,v187,v188,v189,v190,v191,v192,v193,v194,v195,v196));conv at e=>rhs;simp only [kC,h0,aT]
  rw [e]
  refine baT (t0++[.d h0]) [] [3,5,7,8,9,10,11,12] [5,6,7,8] hcx (m:=n2) zZ (aAa n0 n1) (wI a0 a1 (flat (cO a0.length) vT) (vT.length) v177 (W (v178+1)) v179 (W (v180+1)) v181 v182 v183 v184 v185 v186 v187 v188 v189 v190 v191 v192 v193 v194 v195 v196) (by kernel_rfl) ⟨by kernel_rfl,by kernel_rfl⟩ ?_
  have z0:(W (v180+1))=(v180+1):=aS (by omega) (by omega)
  rw [z0]
  exact g2 v176 v177 (W (v178+1)) v179 (v180+1) v181 v182 v183 v184 v185 v186 v187 v188 v189 v190 v191 v192 v193 v194 v195 v196 vT tr (by(repeat' apply And.intro)<;>(try simp only [Int.toNat_zero])<;>first | omega | assumption | exact TK.nil | exact oH) (by omega)
 | false =>
  try have ha2:=aP5 hi.2.1 h0 (v180+1 - v189)
  have e:=Eq.refl (kC a0 a1 (v176,v177,v178,v179,v180,v181,v182,v183,v184,v185,v186,v187,v188,v189,v190,v191,v192,v193,v194,v195,v196));conv at e=>rhs;simp only [kC,h0,aT]
  rw [e]
  refine baT (t0++[.d h0]) [] [3,5,7,8,9,10,11,12] [5,6,7,8] hcx (m:=n2) zZ (aAa n0 n1) (wI a0 a1 (flat (cO a0.length) vT) (vT.length) v177 v178 v179 (W (v180+1)) v181 v182 v183 v184 v185 v186 v187 v188 v189 v190 v191 v192 v193 v194 v195 v196) (by kernel_rfl) ⟨by kernel_rfl,by kernel_rfl⟩ ?_
  have z0:(W (v180+1))=(v180+1):=aS (by omega) (by omega)
  rw [z0]
  exact g2 v176 v177 v178 v179 (v180+1) v181 v182 v183 v184 v185 v186 v187 v188 v189 v190 v191 v192 v193 v194 v195 v196 vT tr (by(repeat' apply And.intro)<;>(try simp only [Int.toNat_zero])<;>first | omega | assumption | exact TK.nil | exact oH) (by omega)
theorem aNb (a0:bO)(a1:(List Int×bF)×(List (Int×Int×Bool))×List (List (Int×Int)))(l0:a0.length<=2^63-1)(l1_1_1:a1.1.1.length<=2^63-1)(l1_1_2:a1.1.2.length<=2^63-1)(l1_2_1:a1.2.1.length<=2^63-1)(l1_2_2:a1.2.2.length<=2^63-1)(he:EntOK a0.length a1) {cx:Cx} (hcx:cx.base=5)
 (n0:Nat) (g0:wJ a0 a1 cx n0)
 (n1:Nat) (g1:aAb a0 a1 cx n0 n1)
 (n2:Nat) (g2:aF5 a0 a1 cx n0 n1 n2) (v155:List (List (Int×Int))) (v156 v157 v158 v159 v160 v161 v162 v163 v164 v165 v166 v167 v168 v169 v170 v171 v172 v173 v174 v175:Int) (vT:List (Option iK)) (tr:TabR eW a0.length vT v155):(TL a0.length v155 a0.length)/\(zI v157 (a1.2.1.getD (tN v156) dF).2.2 (v158 - v160) (v169 - v168) (v159 - v168))/\((((a1.2.2.getD (tN v156) dF).length:Nat):Int)=bif (a1.2.1.getD (tN v156) dF).2.2 then 1 else(v161 - v160)*(v169 - v168))/\((0<=v156))/\((v156<=(a1.2.1.length:Int)))/\(v156 < (a1.2.1.length:Int))/\(tN ((a1.2.1.length:Int) - v156) < n0+1)/\((0<=v158))/\(((((a1.2.2.getD (tN v156) dF).length:Nat):Int)=bif (a1.2.1.getD (tN v156) dF).2.2 then 1 else(v161 - v160)*(v169 - v168)))/\((v160<=v158))/\((v158<=v161))/\((0<=v160))/\((v161<=a1.1.1.length))/\((0<=v168))/\((v168<=v169))/\((v169<=a1.1.1.length))/\(v158 < v161)/\(tN (v161 - v158) < n1+1)/\((0<=v159))/\((v168<=v159))/\((v159<=v169))/\(v159 < v169)/\(tN (v169 - v159) < n2+1)->Aw.GoodT Tryz.prog none 9 (bodyPost Tryz.prog Tryz.f26 (RR cx (.s 5 0 (bA (fR a0 a1) n0 (bA (gL a0 a1) n1 (bA (iB a0 a1) n2 (nA a0 a1 (v155,v156,v157,v158,v159,v160,v161,v162,v163,v164,v165,v166,v167,v168,v169,v170,v171,v172,v173,v174,v175))))).length 1) [(.live true true (flat jM (bA (fR a0 a1) n0 (bA (gL a0 a1) n1 (bA (iB a0 a1) n2 (nA a0 a1 (v155,v156,v157,v158,v159,v160,v161,v162,v163,v164,v165,v166,v167,v168,v169,v170,v171,v172,v173,v174,v175)))))))] [])) cx [] a0.length 2 vT (.c yD::aDn n0 n1 n2) (aCg a0 a1 (flat (cO a0.length) vT) (vT.length) v156 v157 v158 v159 v160 v161 v162 v163 v164 v165 v166 v167 v168 v169 v170 v171 v172 v173 v174 v175):=by
 intro hi
 have e:=Eq.refl (nA a0 a1 (v155,v156,v157,v158,v159,v160,v161,v162,v163,v164,v165,v166,v167,v168,v169,v170,v171,v172,v173,v174,v175));conv at e=>rhs;simp only [nA]
 rw [e]
 have hn1:=he.n1
 have hnz:=he.nz (by omega)
 have hvl:=tr.length
 have htl:=hi.1
 have htl0:=htl.1
 have hsp:=he.sp
 have hat1:=hi.2.1
 have hsl:=hi.2.2.1
 have hr1:=he.ord.atD (by omega) (tN v158)
 have hr2:=he.ord.atD (by omega) (tN v159)
 have hxl:=htl.2 (tN (a1.1.1.getD (tN v158) dF)) (by omega)
 obtain⟨xr,hxr,hxc⟩:=tr.get (tN (a1.1.1.getD (tN v158) dF)) (by omega) hxl (by omega)
 have hxi:0<=(a1.1.1.getD (tN v158) dF)/\(a1.1.1.getD (tN v158) dF) < (vT.length:Int):=by omega
 have hat:=aL2 hi.2.1 hi.2.2.1 (by omega) (by omega)
 have hs:(splice xr.2.2 (0+tN (a1.1.1.getD (tN v159) dF)*2) (k2 ((a1.2.2.getD (tN v156) dF).getD (tN v157) dF)))=flat eW ((v155.getD (tN (a1.1.1.getD (tN v158) dF)) []).set (tN (a1.1.1.getD (tN v159) dF)) ((a1.2.2.getD (tN v156) dF).getD (tN v157) dF)):=by rw [hxc];exact bB dM (by omega) (o:=0) (d:=dF) (Nat.le_refl 2) (qZ (dM _))
 refine GoodT.putE hT hm (B:=yD) (by kernel_rfl) 23 (by kernel_rfl) [.i v158 (a1.1.1.length),.L aF a1.1.1 v158 0 1,.i (a1.1.1.getD (tN v158) dF) (vT.length),.l [(.v (mE a0.length xr))] (aP4 hxi hxr),.i v159 (a1.1.1.length),.L aF a1.1.1 v159 0 1,.i v156 (a1.2.2.length),.L lQ a1.2.2 v156 0 1,.p (hG (c:=eW) (fun _=>rfl) (a1.2.2.getD (tN v156) dF)),.i v157 ((a1.2.2.getD (tN v156) dF).length),.L dM (a1.2.2.getD (tN v156) dF) v157 0 2] [.i (a1.1.1.getD (tN v159) dF) a0.length (by omega),.p (show 0+tN (a1.1.1.getD (tN v159) dF)*2+2<=xr.2.2.length from by rw [hxc,bW dM,hxl];omega)] [.kill 9] 78 (tN (a1.1.1.getD (tN v158) dF)) xr (splice xr.2.2 (0+tN (a1.1.1.getD (tN v159) dF)*2) (k2 ((a1.2.2.getD (tN v156) dF).getD (tN v157) dF))) hcx (by kernel_rfl) (by kernel_rfl) (by kernel_rfl) ⟨by kernel_rfl,by kernel_rfl⟩ (by kernel_rfl) hxr (by kernel_rfl) ⟨by kernel_rfl,by kernel_rfl⟩ (by kernel_rfl) (by rw [hs];exact hG (c:=eW) (fun _=>rfl) _) (by rw [hs,bW dM,List.length_set,hxl]) ?_
 refine gaT [.z 18] [] [3,5,7,8,9,10,11,12] [5,6,7,8] hcx aDl (aDm n0 n1 n2) (aCf a0 a1 (flat (cO a0.length) vT) (vT.length) v156 v157 v158 v159 v160 v161 v162 v163 v164 v165 v166 v167 v168 v169 v170 v171 v172 v173 v174 v175) (by kernel_rfl) ⟨by kernel_rfl,by kernel_rfl⟩ ?_
 have tr1:=tr.set (tN (a1.1.1.getD (tN v158) dF)) (xr.1,xr.2.1,(splice xr.2.2 (0+tN (a1.1.1.getD (tN v159) dF)*2) (k2 ((a1.2.2.getD (tN v156) dF).getD (tN v157) dF)))) ((v155.getD (tN (a1.1.1.getD (tN v158) dF)) []).set (tN (a1.1.1.getD (tN v159) dF)) ((a1.2.2.getD (tN v156) dF).getD (tN v157) dF)) (by rw [List.length_set,hxl]) hs
 have htl1:=htl.set (l:=((v155.getD (tN (a1.1.1.getD (tN v158) dF)) []).set (tN (a1.1.1.getD (tN v159) dF)) ((a1.2.2.getD (tN v156) dF).getD (tN v157) dF))) (by rw [List.length_set,hxl]) (tN (a1.1.1.getD (tN v158) dF))
 rw [←zH (nn:=a0.length) hxr (splice xr.2.2 (0+tN (a1.1.1.getD (tN v159) dF)*2) (k2 ((a1.2.2.getD (tN v156) dF).getD (tN v157) dF)))]
 rw [show vT.length=(vT.set (tN (a1.1.1.getD (tN v158) dF)) (some (xr.1,xr.2.1,(splice xr.2.2 (0+tN (a1.1.1.getD (tN v159) dF)*2) (k2 ((a1.2.2.getD (tN v156) dF).getD (tN v157) dF)))))).length from by simp]
 exact aNa a0 a1 l0 l1_1_1 l1_1_2 l1_2_1 l1_2_2 he hcx n0 g0 n1 g1 n2 g2 (v155.set (tN (a1.1.1.getD (tN v158) dF)) ((v155.getD (tN (a1.1.1.getD (tN v158) dF)) []).set (tN (a1.1.1.getD (tN v159) dF)) ((a1.2.2.getD (tN v156) dF).getD (tN v157) dF))) v156 v157 v158 v159 v160 v161 v162 v163 v164 v165 v166 v167 v168 v169 v170 v171 v172 v173 v174 v175 (vT.set (tN (a1.1.1.getD (tN v158) dF)) (some (xr.1,xr.2.1,(splice xr.2.2 (0+tN (a1.1.1.getD (tN v159) dF)*2) (k2 ((a1.2.2.getD (tN v156) dF).getD (tN v157) dF)))))) tr1 (by(repeat' apply And.intro)<;>(try simp only [Int.toNat_zero])<;>first | omega | assumption | exact TK.nil | exact oH)
theorem aSe (a0:bO)(a1:(List Int×bF)×(List (Int×Int×Bool))×List (List (Int×Int)))(l0:a0.length<=2^63-1)(l1_1_1:a1.1.1.length<=2^63-1)(l1_1_2:a1.1.2.length<=2^63-1)(l1_2_1:a1.2.1.length<=2^63-1)(l1_2_2:a1.2.2.length<=2^63-1)(he:EntOK a0.length a1) {cx:Cx} (hcx:cx.base=5)
 (n0:Nat) (g0:wJ a0 a1 cx n0)
 (n1:Nat) (g1:aAb a0 a1 cx n0 n1):∀n:Nat,aF5 a0 a1 cx n0 n1 n:=by
 intro n
 induction n with
 | zero=>intro v134 v135 v136 v137 v138 v139 v140 v141 v142 v143 v144 v145 v146 v147 v148 v149 v150 v151 v152 v153 v154 vT tr hi hn;exact absurd hn (eI _)
 | succ n ih =>
  intro v134 v135 v136 v137 v138 v139 v140 v141 v142 v143 v144 v145 v146 v147 v148 v149 v150 v151 v152 v153 v154 vT tr hi hn
  refine GoodT.round ?_
  have hnz:=he.nz (by omega)
  have hsl:(((a1.2.2.getD (tN v135) dF).length:Nat):Int)=bif (a1.2.1.getD (tN v135) dF).2.2 then 1 else(v140 - v139)*(v148 - v147):=by have q:=hi;repeat (first | exact q.1 | replace q:=q.2)
  have hn1:=he.n1
  have hsp:=he.sp
  have hol:=he.ol
  have htl:=hi.2.1
  have hat:=hi.2.2.1
  cases h0:(decide ((v138:Int) < v148)) with
  | true =>
   have q0:=cJ h0
   have e:=Eq.refl (iB a0 a1 (v134,v135,v136,v137,v138,v139,v140,v141,v142,v143,v144,v145,v146,v147,v148,v149,v150,v151,v152,v153,v154));conv at e=>rhs;simp only [iB,h0,aT]
   rw [aJ,e]
   refine gaT [.d h0,.z 17] [] [3,5,7,8,9,10,11,12] [5,6,7,8] hcx yD (aDn n0 n1 n) (aCg a0 a1 (flat (cO a0.length) vT) (vT.length) v135 v136 v137 v138 v139 v140 v141 v142 v143 v144 v145 v146 v147 v148 v149 v150 v151 v152 v153 v154) (by kernel_rfl) ⟨by kernel_rfl,by kernel_rfl⟩ ?_
   exact aNb a0 a1 l0 l1_1_1 l1_1_2 l1_2_1 l1_2_2 he hcx n0 g0 n1 g1 n ih v134 v135 v136 v137 v138 v139 v140 v141 v142 v143 v144 v145 v146 v147 v148 v149 v150 v151 v152 v153 v154 vT tr (by(repeat' apply And.intro)<;>(try simp only [Int.toNat_zero])<;>first | omega | assumption | exact TK.nil | exact oH)
  | false =>
   have q0:=cN h0
   try have har:zI v136 (a1.2.1.getD (tN v135) dF).2.2 (v137+1 - v139) (v148 - v147) 0:=by have _:=cN h0;rw [show v137+1 - v139=v137 - v139+1 from by omega];exact aP6 hi.2.2.1 (by omega)
   have e:=Eq.refl (iB a0 a1 (v134,v135,v136,v137,v138,v139,v140,v141,v142,v143,v144,v145,v146,v147,v148,v149,v150,v151,v152,v153,v154));conv at e=>rhs;simp only [iB,h0,aT]
   rw [aJ,e]
   refine baT [.d h0] [] [3,5,7,8,9,10,11] [5,6,7,8] hcx (m:=n1) aFz (aF0 n0) (aCh a0 a1 (flat (cO a0.length) vT) (vT.length) v135 v136 (W (v137+1)) v139 v140 v141 v142 v143 v144 v145 v146 v147 v148 v149 v150 v151 v152 v153 v154) (by kernel_rfl) ⟨by kernel_rfl,by kernel_rfl⟩ ?_
   have z0:(W (v137+1))=(v137+1):=aS (by omega) (by omega)
   rw [z0]
   exact g1 v134 v135 v136 (v137+1) v139 v140 v141 v142 v143 v144 v145 v146 v147 v148 v149 v150 v151 v152 v153 v154 vT tr (by(repeat' apply And.intro)<;>(try simp only [Int.toNat_zero])<;>first | omega | assumption | exact TK.nil | exact oH) (by omega)
theorem aSf (a0:bO)(a1:(List Int×bF)×(List (Int×Int×Bool))×List (List (Int×Int)))(l0:a0.length<=2^63-1)(l1_1_1:a1.1.1.length<=2^63-1)(l1_1_2:a1.1.2.length<=2^63-1)(l1_2_1:a1.2.1.length<=2^63-1)(l1_2_2:a1.2.2.length<=2^63-1)(he:EntOK a0.length a1) {cx:Cx} (hcx:cx.base=5)
 (n0:Nat) (g0:wJ a0 a1 cx n0):∀n:Nat,aAb a0 a1 cx n0 n:=by
 intro n
 induction n with
 | zero=>intro v114 v115 v116 v117 v118 v119 v120 v121 v122 v123 v124 v125 v126 v127 v128 v129 v130 v131 v132 v133 vT tr hi hn;exact absurd hn (eI _)
 | succ n ih =>
  intro v114 v115 v116 v117 v118 v119 v120 v121 v122 v123 v124 v125 v126 v127 v128 v129 v130 v131 v132 v133 vT tr hi hn
  refine GoodT.round ?_
  have hnz:=he.nz (by omega)
  have hsl:(((a1.2.2.getD (tN v115) dF).length:Nat):Int)=bif (a1.2.1.getD (tN v115) dF).2.2 then 1 else(v119 - v118)*(v127 - v126):=by have q:=hi;repeat (first | exact q.1 | replace q:=q.2)
  have hn1:=he.n1
  have hsp:=he.sp
  have hol:=he.ol
  have htl:=hi.2.1
  have hat:zI v116 (a1.2.1.getD (tN v115) dF).2.2 (v117 - v118) (v127 - v126) (v126 - v126):=by rw [Int.sub_self];exact hi.2.2.1
  cases h0:(decide ((v117:Int) < v119)) with
  | true =>
   have q0:=cJ h0
   have e:=Eq.refl (gL a0 a1 (v114,v115,v116,v117,v118,v119,v120,v121,v122,v123,v124,v125,v126,v127,v128,v129,v130,v131,v132,v133));conv at e=>rhs;simp only [gL,h0,aT]
   rw [aJ,e]
   refine enT [.d h0] [] [3,5,7,8,9,10,11,12] [5,6,7,8] hcx zZ (aAa n0 n) (wI a0 a1 (flat (cO a0.length) vT) (vT.length) v115 v116 v117 v126 v118 v119 v120 v121 v122 v123 v124 v125 v126 v127 v128 v129 v130 v131 v132 v133) (tN (v127 - v126)+1) (by kernel_rfl) ⟨by kernel_rfl,by kernel_rfl⟩ ?_
   exact aSe a0 a1 l0 l1_1_1 l1_1_2 l1_2_1 l1_2_2 he hcx n0 g0 n ih (tN (v127 - v126)+1) v114 v115 v116 v117 v126 v118 v119 v120 v121 v122 v123 v124 v125 v126 v127 v128 v129 v130 v131 v132 v133 vT tr (by(repeat' apply And.intro)<;>(try simp only [Int.toNat_zero])<;>first | omega | assumption | exact TK.nil | exact oH) (by omega)
  | false =>
   have q0:=cN h0
   have e:=Eq.refl (gL a0 a1 (v114,v115,v116,v117,v118,v119,v120,v121,v122,v123,v124,v125,v126,v127,v128,v129,v130,v131,v132,v133));conv at e=>rhs;simp only [gL,h0,aT]
   rw [aJ,e]
   refine baT [.d h0] [] [3,5,7] [5,6] hcx (m:=n0) aF1 (aF2) (aCj a0 a1 (flat (cO a0.length) vT) (vT.length) (W (v115+1))) (by kernel_rfl) ⟨by kernel_rfl,by kernel_rfl⟩ ?_
   have z0:(W (v115+1))=(v115+1):=aS (by omega) (by omega)
   rw [z0]
   exact g0 v114 (v115+1) vT tr (by(repeat' apply And.intro)<;>(try simp only [Int.toNat_zero])<;>first | omega | assumption | exact TK.nil | exact oH) (by omega)
theorem aNc (a0:bO)(a1:(List Int×bF)×(List (Int×Int×Bool))×List (List (Int×Int)))(l0:a0.length<=2^63-1)(l1_1_1:a1.1.1.length<=2^63-1)(l1_1_2:a1.1.2.length<=2^63-1)(l1_2_1:a1.2.1.length<=2^63-1)(l1_2_2:a1.2.2.length<=2^63-1)(he:EntOK a0.length a1) {cx:Cx} (hcx:cx.base=5)(v197:List (List (Int×Int)))(vT:List (Option iK))(tr:TabR eW a0.length vT v197):TL a0.length v197 a0.length->Aw.GoodT Tryz.prog none 9 (bodyPost Tryz.prog Tryz.f26 (RR cx (.s 5 0 (pP a0 a1 v197).length 1) [(.live true true (flat jM (pP a0 a1 v197)))] [])) cx [] a0.length 2 vT (.c aDo::aDp) (aCi a0 a1 (flat (cO a0.length) vT) (vT.length)):=by
 intro hi
 have e:=Eq.refl (pP a0 a1 v197);conv at e=>rhs;simp only [pP]
 rw [e]
 have hln:=tr.length
 obtain⟨rws,hrw,hfl⟩:=tr.rows' (cT:=jM) (es:=2) (fun _=>rfl) hi.1 (fun i h=>hi.2 i (by have:=hi.1;omega))
 subst hrw
 rw [hln,aFw]
 refine GoodT.freeze (rows:=rws) 5 (by kernel_rfl) ?_
 rw [hfl]
 exact rt [] [] [5] hcx (by kernel_rfl)
theorem aSg (a0:bO)(a1:(List Int×bF)×(List (Int×Int×Bool))×List (List (Int×Int)))(l0:a0.length<=2^63-1)(l1_1_1:a1.1.1.length<=2^63-1)(l1_1_2:a1.1.2.length<=2^63-1)(l1_2_1:a1.2.1.length<=2^63-1)(l1_2_2:a1.2.2.length<=2^63-1)(he:EntOK a0.length a1) {cx:Cx} (hcx:cx.base=5):∀n:Nat,wJ a0 a1 cx n:=by
 intro n
 induction n with
 | zero=>intro v12 v13 vT tr hi hn;exact absurd hn (eI _)
 | succ n ih =>
  intro v12 v13 vT tr hi hn
  refine GoodT.round ?_
  have hn1:=he.n1
  have hsp:=he.sp
  have hol:=he.ol
  have htl:=hi.2.1
  cases h0:(decide ((v13:Int) < (a1.2.1.length:Int))) with
  | true =>
   have q0:=cJ h0
   try have hb:=he.blk v13 (by omega) (by first | exact cJ h0 | omega)
   try have hb1:=(fun _=>hb.1) h0
   try have hb2:=(fun _=>hb.2.1) h0
   try have hb3:=(fun _=>hb.2.2.1) h0
   try have hb4:=(fun _=>hb.2.2.2.1) h0
   try have hb5:=(fun _=>hb.2.2.2.2) h0
   have e:=Eq.refl (fR a0 a1 (v12,v13));conv at e=>rhs;simp only [fR,h0,aT]
   rw [aJ,e]
   refine enT [.d h0,.i v13 (a1.2.1.length),.L eF a1.2.1 v13 0 1,.i ((a1.2.1.getD (tN v13) dF).1) (a1.1.2.length),.L bU a1.1.2 (a1.2.1.getD (tN v13) dF).1 0 8,.i v13 (a1.2.1.length),.L eF a1.2.1 v13 1 1,.i ((a1.2.1.getD (tN v13) dF).2.1) (a1.1.2.length),.L bU a1.1.2 (a1.2.1.getD (tN v13) dF).2.1 0 8] [] [3,5,7,8,9,10,11] [5,6,7,8] hcx aFz (aF0 n) (aCh a0 a1 (flat (cO a0.length) vT) (vT.length) v13 0 ((a1.1.2.getD (tN (a1.2.1.getD (tN v13) dF).1) dF).1) ((a1.1.2.getD (tN (a1.2.1.getD (tN v13) dF).1) dF).1) ((a1.1.2.getD (tN (a1.2.1.getD (tN v13) dF).1) dF).2.1) ((a1.1.2.getD (tN (a1.2.1.getD (tN v13) dF).1) dF).2.2.1) ((a1.1.2.getD (tN (a1.2.1.getD (tN v13) dF).1) dF).2.2.2.1) ((a1.1.2.getD (tN (a1.2.1.getD (tN v13) dF).1) dF).2.2.2.2.1.1) ((a1.1.2.getD (tN (a1.2.1.getD (tN v13) dF).1) dF).2.2.2.2.1.2.1) ((a1.1.2.getD (tN (a1.2.1.getD (tN v13) dF).1) dF).2.2.2.2.1.2.2) ((a1.1.2.getD (tN (a1.2.1.getD (tN v13) dF).1) dF).2.2.2.2.2) ((a1.1.2.getD (tN (a1.2.1.getD (tN v13) dF).2.1) dF).1) ((a1.1.2.getD (tN (a1.2.1.getD (tN v13) dF).2.1) dF).2.1) ((a1.1.2.getD (tN (a1.2.1.getD (tN v13) dF).2.1) dF).2.2.1) ((a1.1.2.getD (tN (a1.2.1.getD (tN v13) dF).2.1) dF).2.2.2.1) ((a1.1.2.getD (tN (a1.2.1.getD (tN v13) dF).2.1) dF).2.2.2.2.1.1) ((a1.1.2.getD (tN (a1.2.1.getD (tN v13) dF).2.1) dF).2.2.2.2.1.2.1) ((a1.1.2.getD (tN (a1.2.1.getD (tN v13) dF).2.1) dF).2.2.2.2.1.2.2) ((a1.1.2.getD (tN (a1.2.1.getD (tN v13) dF).2.1) dF).2.2.2.2.2)) (tN ((a1.1.2.getD (tN (a1.2.1.getD (tN v13) dF).1) dF).2.1 - (a1.1.2.getD (tN (a1.2.1.getD (tN v13) dF).1) dF).1)+1) (by kernel_rfl) ⟨by kernel_rfl,by kernel_rfl⟩ ?_
   exact aSf a0 a1 l0 l1_1_1 l1_1_2 l1_2_1 l1_2_2 he hcx n ih (tN ((a1.1.2.getD (tN (a1.2.1.getD (tN v13) dF).1) dF).2.1 - (a1.1.2.getD (tN (a1.2.1.getD (tN v13) dF).1) dF).1)+1) v12 v13 0 ((a1.1.2.getD (tN (a1.2.1.getD (tN v13) dF).1) dF).1) ((a1.1.2.getD (tN (a1.2.1.getD (tN v13) dF).1) dF).1) ((a1.1.2.getD (tN (a1.2.1.getD (tN v13) dF).1) dF).2.1) ((a1.1.2.getD (tN (a1.2.1.getD (tN v13) dF).1) dF).2.2.1) ((a1.1.2.getD (tN (a1.2.1.getD (tN v13) dF).1) dF).2.2.2.1) ((a1.1.2.getD (tN (a1.2.1.getD (tN v13) dF).1) dF).2.2.2.2.1.1) ((a1.1.2.getD (tN (a1.2.1.getD (tN v13) dF).1) dF).2.2.2.2.1.2.1) ((a1.1.2.getD (tN (a1.2.1.getD (tN v13) dF).1) dF).2.2.2.2.1.2.2) ((a1.1.2.getD (tN (a1.2.1.getD (tN v13) dF).1) dF).2.2.2.2.2) ((a1.1.2.getD (tN (a1.2.1.getD (tN v13) dF).2.1) dF).1) ((a1.1.2.getD (tN (a1.2.1.getD (tN v13) dF).2.1) dF).2.1) ((a1.1.2.getD (tN (a1.2.1.getD (tN v13) dF).2.1) dF).2.2.1) ((a1.1.2.getD (tN (a1.2.1.getD (tN v13) dF).2.1) dF).2.2.2.1) ((a1.1.2.getD (tN (a1.2.1.getD (tN v13) dF).2.1) dF).2.2.2.2.1.1) ((a1.1.2.getD (tN (a1.2.1.getD (tN v13) dF).2.1) dF).2.2.2.2.1.2.1) ((a1.1.2.getD (tN (a1.2.1.getD (tN v13) dF).2.1) dF).2.2.2.2.1.2.2) ((a1.1.2.getD (tN (a1.2.1.getD (tN v13) dF).2.1) dF).2.2.2.2.2) vT tr (by(repeat' apply And.intro)<;>(try simp only [Int.toNat_zero])<;>first | omega | assumption | exact TK.nil | exact oH) (by omega)
  | false =>
   have q0:=cN h0
   have e:=Eq.refl (fR a0 a1 (v12,v13));conv at e=>rhs;simp only [fR,h0,aT]
   rw [aJ,e]
   refine gaT [.d h0,.z 20] [] [5] [6] hcx aDo (aDp) (aCi a0 a1 (flat (cO a0.length) vT) (vT.length)) (by kernel_rfl) ⟨by kernel_rfl,by kernel_rfl⟩ ?_
   exact aNc a0 a1 l0 l1_1_1 l1_1_2 l1_2_1 l1_2_2 he hcx v12 vT tr (by(repeat' apply And.intro)<;>(try simp only [Int.toNat_zero])<;>first | omega | assumption | exact TK.nil | exact oH)
theorem aSh (a0:bO)(a1:(List Int×bF)×(List (Int×Int×Bool))×List (List (Int×Int)))(l0:a0.length<=2^63-1)(l1_1_1:a1.1.1.length<=2^63-1)(l1_1_2:a1.1.2.length<=2^63-1)(l1_2_1:a1.2.1.length<=2^63-1)(l1_2_2:a1.2.2.length<=2^63-1)(he:EntOK a0.length a1) {cx:Cx} (hcx:cx.base=5):∀n:Nat,aF6 a0 a1 cx n:=by
 intro n
 induction n with
 | zero=>intro v4 v5 vT tr hi hn;exact absurd hn (eI _)
 | succ n ih =>
  intro v4 v5 vT tr hi hn
  refine GoodT.round ?_
  have hn1:=he.n1
  have hsp:=he.sp
  have htl:=hi.2.1
  cases h0:(decide ((v5:Int) < (a0.length:Int))) with
  | true =>
   have q0:=cJ h0
   have e:=Eq.refl (iC a0 a1 (v4,v5));conv at e=>rhs;simp only [iC,h0,aT]
   rw [aJ,e]
   refine gaT [.d h0,.z 5] [] [0,3,5,6] [5,6] hcx aCe (aH3 n) (aDk a0 a1 (flat (cO a0.length) vT) (vT.length) v5) (by kernel_rfl) ⟨by kernel_rfl,by kernel_rfl⟩ ?_
   exact aQj a0 a1 l0 l1_1_1 l1_1_2 l1_2_1 l1_2_2 he hcx n ih v4 v5 vT tr (by(repeat' apply And.intro)<;>(try simp only [Int.toNat_zero])<;>first | omega | assumption | exact TK.nil | exact oH)
  | false =>
   have q0:=cN h0
   try have htl2:=htl.tl (by have _:=cN h0;omega)
   have e:=Eq.refl (iC a0 a1 (v4,v5));conv at e=>rhs;simp only [iC,h0,aT]
   rw [aJ,e]
   refine enT [.d h0] [] [3,5,7] [5,6] hcx aF1 (aF2) (aCj a0 a1 (flat (cO a0.length) vT) (vT.length) 0) (tN ((a1.2.1.length:Int) - 0)+1) (by kernel_rfl) ⟨by kernel_rfl,by kernel_rfl⟩ ?_
   exact aSg a0 a1 l0 l1_1_1 l1_1_2 l1_2_1 l1_2_2 he hcx (tN ((a1.2.1.length:Int) - 0)+1) v4 0 vT tr (by(repeat' apply And.intro)<;>(try simp only [Int.toNat_zero])<;>first | omega | assumption | exact TK.nil | exact oH) (by omega)
def pQ (a0:bO)(a1:(List Int×bF)×(List (Int×Int×Bool))×List (List (Int×Int))):List (List (Int×Int)) :=
 (aH (iC a0 a1) (tN ((a0.length:Int) - 0)+1) (([]:List (List (Int×Int))),0))
theorem aWx (a0:bO)(a1:(List Int×bF)×(List (Int×Int×Bool))×List (List (Int×Int)))(l0:a0.length<=2^63-1)(l1_1_1:a1.1.1.length<=2^63-1)(l1_1_2:a1.1.2.length<=2^63-1)(l1_2_1:a1.2.1.length<=2^63-1)(l1_2_2:a1.2.2.length<=2^63-1)(he:EntOK a0.length a1):Con Tryz.prog 26 [(.s 0 0 a0.length 10),(.a [(.s 1 0 a1.1.1.length 1),(.s 2 0 a1.1.2.length 8),(.s 3 0 a1.2.1.length 3),(.s 4 0 a1.2.2.length 1)])] [(.live false true (flat dC a0)),(.live false true (flat c3 a1.1.1)),(.live false true (flat cB a1.1.2)),(.live false true (flat fC a1.2.1)),(.live false true (flat jM a1.2.2))] (.s 5 0 (pQ a0 a1).length 1) [(.live true true (flat jM (pQ a0 a1)))]:=by
 refine aY Tryz.func26 (by kernel_rfl) fun cx hcx=>?_
 have hn1:=he.n1
 have hsp:=he.sp
 have hol:=he.ol
 have e:=Eq.refl (pQ a0 a1);conv at e=>rhs;simp only [pQ]
 rw [e]
 refine en [] [.slot 5 1] [0,3,5,6] [5,6] hcx aF3 (aF4) (aCk a0 a1 (flat (cO a0.length) []) 0 0) (tN ((a0.length:Int) - 0)+1) (by kernel_rfl) ?_
 refine GoodT.none (nn:=a0.length) (es:=2) (rows:=[]) (fun i x h=>by simp at h) ?_
 exact aSh a0 a1 l0 l1_1_1 l1_1_2 l1_2_1 l1_2_2 he hcx (tN ((a0.length:Int) - 0)+1) ([]:List (List (Int×Int))) 0 ([]) trivial (by(repeat' apply And.intro)<;>(try simp only [Int.toNat_zero])<;>first | omega | assumption | exact TK.nil | exact oH) (by omega)
end Go.Proofs.YtkdfcbmcgnaicaaGreat
namespace Go.Proofs.YtkdfcbmcgnaicaaGreat
open Go.Proofs Go.Aw Go.RowKit
set_option maxRecDepth 100000
noncomputable def yE:Code:=(aM [1,1,0,1] [] (aL Tryz.f32) []).1
noncomputable def yF:List K:=(aM [1,1,0,1] [] (aL Tryz.f32) []).2
def uZ (a0:List (Int×Int×Bool))(a1:List (Int×Int×Bool))(v1:Int):LS:=⟨gD 26 [(0,(.s 0 0 a0.length 3)),(1,(.s 1 0 a1.length 3)),(12,(iv (a0.length:Int))),(13,(iv v1))],[(.live false true (flat fC a0)),(.live false true (flat fC a1))]⟩
def kD (a0:List (Int×Int×Bool))(a1:List (Int×Int×Bool)):Int->(Int)⊕(Bool)
 | v1 =>
  (bif (decide ((v1:Int) < (a0.length:Int))) then
   (bif (!((((a0.getD (tN v1) dF).1:Int) == (a1.getD (tN v1) dF).1)&&((((a0.getD (tN v1) dF).2.1:Int) == (a1.getD (tN v1) dF).2.1)&&(((a0.getD (tN v1) dF).2.2 == (a1.getD (tN v1) dF).2.2)&&true)))) then
    (.inr false)
   else
    (.inl (v1+1)))
  else
   (.inr true))
theorem aNd (a0:List (Int×Int×Bool))(a1:List (Int×Int×Bool))(l0:a0.length<=2^63-1)(l1:a1.length<=2^63-1) {cx:Cx} (hcx:cx.base=2):∀(n:Nat) (v1:Int),(0<=v1)/\(a0.length=a1.length)->tN ((a0.length:Int) - v1) < n->Aw.Good Tryz.prog none 9 (bodyPost Tryz.prog Tryz.f32 (RR cx (.v (.bool (aH (kD a0 a1) n v1))) [] [])) cx [] (.l yE n::yF) (uZ a0 a1 v1):=by
 intro n
 induction n with
 | zero=>intro v1 hi hn;exact absurd hn (eI _)
 | succ n ih =>
  intro v1 hi hn
  refine aR ?_
  cases h0:(decide ((v1:Int) < (a0.length:Int))) with
  | true =>
   have q0:=cJ h0
   let t1:List (St Tryz.prog):=[.d h0,.i v1 (a0.length),.L eF a0 v1 0 3,.i v1 (a1.length),.L eF a1 v1 0 3]
   cases h1:(!((((a0.getD (tN v1) dF).1:Int) == (a1.getD (tN v1) dF).1)&&((((a0.getD (tN v1) dF).2.1:Int) == (a1.getD (tN v1) dF).2.1)&&(((a0.getD (tN v1) dF).2.2 == (a1.getD (tN v1) dF).2.2)&&true)))) with
   | true =>
    have e:=Eq.refl (kD a0 a1 v1);conv at e=>rhs;simp only [kD,h0,h1,aT]
    rw [aJ,e]
    exact rt (t1++[.d h1]) [] [] hcx (by kernel_rfl)
   | false =>
    have e:=Eq.refl (kD a0 a1 v1);conv at e=>rhs;simp only [kD,h0,h1,aT]
    rw [aI e]
    refine ba (t1++[.d h1]) [] [0,1,12,13] [] hcx (m:=n) yE (yF) (uZ a0 a1 (W (v1+1))) (by kernel_rfl) ?_
    have z0:(W (v1+1))=(v1+1):=aS (by omega) (by omega)
    rw [z0]
    exact ih (v1+1) (by refine⟨?_,?_⟩<;>(try simp only [Ls])<;>first | omega | assumption | simp) (by omega)
  | false =>
   have q0:=cN h0
   have e:=Eq.refl (kD a0 a1 v1);conv at e=>rhs;simp only [kD,h0,aT]
   rw [aJ,e]
   exact rt [.d h0] [] [] hcx (by kernel_rfl)
def lR (a0:List (Int×Int×Bool))(a1:List (Int×Int×Bool)):Bool :=
 (bif (((a0.length:Int):Int) != (a1.length:Int)) then
  false
 else
  (aH (kD a0 a1) (tN ((a0.length:Int) - 0)+1) 0))
theorem aSi (a0:List (Int×Int×Bool))(a1:List (Int×Int×Bool))(l0:a0.length<=2^63-1)(l1:a1.length<=2^63-1):Con Tryz.prog 32 [(.s 0 0 a0.length 3),(.s 1 0 a1.length 3)] [(.live false true (flat fC a0)),(.live false true (flat fC a1))] (.v (.bool (lR a0 a1))) []:=by
 refine aY Tryz.func32 (by kernel_rfl) fun cx hcx=>?_
 cases h0:(((a0.length:Int):Int) != (a1.length:Int)) with
 | true =>
  have q0:=bne_iff_ne.1 h0
  have e:=Eq.refl (lR a0 a1);conv at e=>rhs;simp only [lR,h0,aT]
  rw [e]
  exact rt [.d h0] [] [] hcx (by kernel_rfl)
 | false =>
  have q0:=bne_eq_false_iff_eq.1 h0
  have e:=Eq.refl (lR a0 a1);conv at e=>rhs;simp only [lR,h0,aT]
  rw [e]
  refine en [.d h0] [] [0,1,12,13] [] hcx yE (yF) (uZ a0 a1 0) (tN ((a0.length:Int) - 0)+1) (by kernel_rfl) ?_
  exact aNd a0 a1 l0 l1 hcx (tN ((a0.length:Int) - 0)+1) 0 (by refine⟨?_,?_⟩<;>(try simp only [Ls])<;>first | omega | assumption | simp) (by omega)
def F34 (a0:List Int×bF)(a1:Int×Int×Bool):Int :=
 (bif a1.2.2 then
  1
 else
  (W ((W ((a0.2.getD (tN a1.1) dF).2.1 - (a0.2.getD (tN a1.1) dF).1))*(W ((a0.2.getD (tN a1.2.1) dF).2.1 - (a0.2.getD (tN a1.2.1) dF).1)))))
theorem C34 (a0:List Int×bF)(a1:Int×Int×Bool)(l0_1:a0.1.length<=2^63-1)(l0_2:a0.2.length<=2^63-1)(hb:(0<=a1.1/\a1.1 < a0.2.length)/\(0<=a1.2.1/\a1.2.1 < a0.2.length)):Con Tryz.prog 34 [(.a [(.s 0 0 a0.1.length 1),(.s 1 0 a0.2.length 8)]),(.a [(iv a1.1),(iv a1.2.1),(.v (.bool a1.2.2))])] [(.live false true (flat c3 a0.1)),(.live false true (flat cB a0.2))] (iv (F34 a0 a1)) []:=by
 refine aY Tryz.func34 (by kernel_rfl) fun cx hcx=>?_
 rcases vP a1.2.2 with h0 | h0
 ·skip
  have e:=Eq.refl (F34 a0 a1);conv at e=>rhs;simp only [F34,h0,aT]
  rw [e]
  exact rt [.d h0] [] [] hcx (by kernel_rfl)
 ·skip
  have e:=Eq.refl (F34 a0 a1);conv at e=>rhs;simp only [F34,h0,aT]
  rw [e]
  exact rt [.d h0,.i (a1.1) (a0.2.length),.L bU a0.2 a1.1 0 8,.i (a1.2.1) (a0.2.length),.L bU a0.2 a1.2.1 0 8] [] [] hcx (by kernel_rfl)
def F43 (a0:List Int×bF)(a1:Int×Int×Bool):Int :=
 (bif a1.2.2 then
  1
 else
  (W ((W ((a0.2.getD (tN a1.1) dF).2.1 - (a0.2.getD (tN a1.1) dF).1))*(W ((a0.2.getD (tN a1.2.1) dF).2.1 - (a0.2.getD (tN a1.2.1) dF).1)))))
theorem C43 (a0:List Int×bF)(a1:Int×Int×Bool)(l0_1:a0.1.length<=2^63-1)(l0_2:a0.2.length<=2^63-1)(hb:(0<=a1.1/\a1.1 < a0.2.length)/\(0<=a1.2.1/\a1.2.1 < a0.2.length)):Con Tryz.prog 43 [(.a [(.s 0 0 a0.1.length 1),(.s 1 0 a0.2.length 8)]),(.a [(iv a1.1),(iv a1.2.1),(.v (.bool a1.2.2))])] [(.live false true (flat c3 a0.1)),(.live false true (flat cB a0.2))] (iv (F43 a0 a1)) []:=by
 refine aY Tryz.func43 (by kernel_rfl) fun cx hcx=>?_
 rcases vP a1.2.2 with h0 | h0
 ·skip
  have e:=Eq.refl (F43 a0 a1);conv at e=>rhs;simp only [F43,h0,aT]
  rw [e]
  exact rt [.d h0] [] [] hcx (by kernel_rfl)
 ·skip
  have e:=Eq.refl (F43 a0 a1);conv at e=>rhs;simp only [F43,h0,aT]
  rw [e]
  exact rt [.d h0,.i (a1.1) (a0.2.length),.L bU a0.2 a1.1 0 8,.i (a1.2.1) (a0.2.length),.L bU a0.2 a1.2.1 0 8] [] [] hcx (by kernel_rfl)
def F36 (a0:Int×Int):Bool :=
 (!(F37 a0))
theorem C36 (a0:Int×Int):Con Tryz.prog 36 [(.a [(iv a0.1),(iv a0.2)])] [] (.v (.bool (F36 a0))) []:=by
 refine aY Tryz.func36 (by kernel_rfl) fun cx hcx=>?_
 have e:=Eq.refl (F36 a0);conv at e=>rhs;simp only [F36]
 rw [e]
 exact rt [.c [] (C37 a0)] [] [] hcx (by kernel_rfl)
noncomputable def sH:Code:=(aM [1,0,1] [] (aL Tryz.f54) []).1
noncomputable def sI:List K:=(aM [1,0,1] [] (aL Tryz.f54) []).2
def rA (a0:List (Int×Int))(v1:Int):LS:=⟨gD 19 [(0,(.s 0 0 a0.length 2)),(1,(.v (.func (.func 36) #[] #[]))),(7,(iv (a0.length:Int))),(8,(iv v1))],[(.live false true (flat eW a0))]⟩
def eL (a0:List (Int×Int)):Int->(Int)⊕(Int)
 | v1 =>
  (bif (decide ((v1:Int) < (a0.length:Int))) then
   (bif (F36 (a0.getD (tN v1) dF)) then
    (.inr v1)
   else
    (.inl (v1+1)))
  else
   (.inr (-1)))
theorem aH4 (a0:List (Int×Int))(l0:a0.length<=2^63-1) {cx:Cx} (hcx:cx.base=1):∀(n:Nat) (v1:Int),0<=v1->tN ((a0.length:Int) - v1) < n->Aw.Good Tryz.prog none 9 (bodyPost Tryz.prog Tryz.f54 (RR cx (iv (aH (eL a0) n v1)) [] [])) cx [] (.l sH n::sI) (rA a0 v1):=by
 intro n
 induction n with
 | zero=>intro v1 hi hn;exact absurd hn (eI _)
 | succ n ih =>
  intro v1 hi hn
  refine aR ?_
  cases h0:(decide ((v1:Int) < (a0.length:Int))) with
  | true =>
   have q0:=cJ h0
   let t1:List (St Tryz.prog):=[.d h0,.i v1 (a0.length),.L dM a0 v1 0 2,.c [] (C36 (a0.getD (tN v1) dF))]
   cases h1:(F36 (a0.getD (tN v1) dF)) with
   | true =>
    have e:=Eq.refl (eL a0 v1);conv at e=>rhs;simp only [eL,h0,h1,aT]
    rw [aJ,e]
    exact rt (t1++[.d h1]) [] [] hcx (by kernel_rfl)
   | false =>
    have e:=Eq.refl (eL a0 v1);conv at e=>rhs;simp only [eL,h0,h1,aT]
    rw [aI e]
    refine ba (t1++[.d h1]) [] [0,1,7,8] [] hcx (m:=n) sH (sI) (rA a0 (W (v1+1))) (by kernel_rfl) ?_
    have z0:(W (v1+1))=(v1+1):=aS (by omega) (by omega)
    rw [z0]
    exact ih (v1+1) (by omega) (by omega)
  | false =>
   have q0:=cN h0
   have e:=Eq.refl (eL a0 v1);conv at e=>rhs;simp only [eL,h0,aT]
   rw [aJ,e]
   exact rt [.d h0] [] [] hcx (by kernel_rfl)
def sU (a0:List (Int×Int)):Int :=
 (aH (eL a0) (tN ((a0.length:Int) - 0)+1) 0)
theorem aNe (a0:List (Int×Int))(l0:a0.length<=2^63-1):Con Tryz.prog 54 [(.s 0 0 a0.length 2),(.v (.func (.func 36) #[] #[]))] [(.live false true (flat eW a0))] (iv (sU a0)) []:=by
 refine aY Tryz.func54 (by kernel_rfl) fun cx hcx=>?_
 have e:=Eq.refl (sU a0);conv at e=>rhs;simp only [sU]
 rw [e]
 refine en [] [] [0,1,7,8] [] hcx sH (sI) (rA a0 0) (tN ((a0.length:Int) - 0)+1) (by kernel_rfl) ?_
 exact aH4 a0 l0 hcx (tN ((a0.length:Int) - 0)+1) 0 (by omega) (by omega)
def pR (a0:List (Int×Int)):Bool :=
 (decide (((sU a0):Int)≥0))
theorem aNf (a0:List (Int×Int))(l0:a0.length<=2^63-1):Con Tryz.prog 35 [(.s 0 0 a0.length 2),(.v (.func (.func 36) #[] #[]))] [(.live false true (flat eW a0))] (.v (.bool (pR a0))) []:=by
 refine aY Tryz.func35 (by kernel_rfl) fun cx hcx=>?_
 have e:=Eq.refl (pR a0);conv at e=>rhs;simp only [pR]
 rw [e]
 exact rt [.c [0] (aNe a0 (by omega))] [] [] hcx (by kernel_rfl)
def F9 (a0:(List Int×bF)×(List (Int×Int×Bool))×List (List (Int×Int))):(List Int×bF)×(List (Int×Int×Bool))×List (List (Int×Int)) :=
 ((a0.1.1,a0.1.2),a0.2.1,a0.2.2)
theorem C9 (a0:(List Int×bF)×(List (Int×Int×Bool))×List (List (Int×Int)))(l0_1_1:a0.1.1.length<=2^63-1)(l0_1_2:a0.1.2.length<=2^63-1)(l0_2_1:a0.2.1.length<=2^63-1)(l0_2_2:a0.2.2.length<=2^63-1):Con Tryz.prog 9 [(.a [(.s 0 0 a0.1.1.length 1),(.s 1 0 a0.1.2.length 8),(.s 2 0 a0.2.1.length 3),(.s 3 0 a0.2.2.length 1)])] [(.live false true (flat c3 a0.1.1)),(.live false true (flat cB a0.1.2)),(.live false true (flat fC a0.2.1)),(.live false true (flat jM a0.2.2))] (.a [(.s 0 0 a0.1.1.length 1),(.s 1 0 a0.1.2.length 8),(.s 2 0 a0.2.1.length 3),(.s 3 0 a0.2.2.length 1)]) []:=by
 refine aY Tryz.func9 (by kernel_rfl) fun cx hcx=>?_
 have e:=Eq.refl (F9 a0);conv at e=>rhs;simp only [F9]
 try rw [e]
 exact rt [] [] [] hcx (by kernel_rfl)
def F11 (a0:(List Int×bF)×(List (Int×Int×Bool))×List (List (Int×Int))):(List Int×bF)×(List (Int×Int×Bool))×List (List (Int×Int)) :=
 ((a0.1.1,a0.1.2),a0.2.1,a0.2.2)
theorem C11 (a0:(List Int×bF)×(List (Int×Int×Bool))×List (List (Int×Int)))(l0_1_1:a0.1.1.length<=2^63-1)(l0_1_2:a0.1.2.length<=2^63-1)(l0_2_1:a0.2.1.length<=2^63-1)(l0_2_2:a0.2.2.length<=2^63-1):Con Tryz.prog 11 [(.a [(.s 0 0 a0.1.1.length 1),(.s 1 0 a0.1.2.length 8),(.s 2 0 a0.2.1.length 3),(.s 3 0 a0.2.2.length 1)])] [(.live false true (flat c3 a0.1.1)),(.live false true (flat cB a0.1.2)),(.live false true (flat fC a0.2.1)),(.live false true (flat jM a0.2.2))] (.a [(.s 0 0 a0.1.1.length 1),(.s 1 0 a0.1.2.length 8),(.s 2 0 a0.2.1.length 3),(.s 3 0 a0.2.2.length 1)]) []:=by
 refine aY Tryz.func11 (by kernel_rfl) fun cx hcx=>?_
 have e:=Eq.refl (F11 a0);conv at e=>rhs;simp only [F11]
 try rw [e]
 exact rt [] [] [] hcx (by kernel_rfl)
noncomputable def aUt:Code:=(aM [1,1,0,1] [] (aL Tryz.f6) []).1
noncomputable def aUu:List K:=(aM [1,1,0,1] [] (aL Tryz.f6) []).2
def aQk (a0:(List Int×bF)×(List (Int×Int×Bool))×List (List (Int×Int)))(v1:Int):LS:=⟨gD 42 [(1,(.p 4 0)),(3,(iv v1))],[(.live false true (flat c3 a0.1.1)),(.live false true (flat cB a0.1.2)),(.live false true (flat fC a0.2.1)),(.live false true (flat jM a0.2.2)),(.live true false [(.s 0 0 a0.1.1.length 1),(.s 1 0 a0.1.2.length 8),(.s 2 0 a0.2.1.length 3),(.s 3 0 a0.2.2.length 1)])]⟩
def aC0 (a0:(List Int×bF)×(List (Int×Int×Bool))×List (List (Int×Int))):Int->(Int)⊕(Bool)
 | v1 =>
  (bif (decide ((v1:Int) < (a0.2.2.length:Int))) then
   (bif (decide (((((a0.2.2.getD (tN v1) dF).length:Nat):Int):Int) > 2000)) then
    (.inr true)
   else
    (.inl (v1+1)))
  else
   (.inr false))
theorem aXk (a0:(List Int×bF)×(List (Int×Int×Bool))×List (List (Int×Int)))(l0_1_1:a0.1.1.length<=2^63-1)(l0_1_2:a0.1.2.length<=2^63-1)(l0_2_1:a0.2.1.length<=2^63-1)(l0_2_2:a0.2.2.length<=2^63-1) {cx:Cx} (hcx:cx.base=4):∀(n:Nat) (v1:Int),0<=v1->tN ((a0.2.2.length:Int) - v1) < n->Aw.Good Tryz.prog none 9 (bodyPost Tryz.prog Tryz.f6 (RR cx (.v (.bool (aH (aC0 a0) n v1))) [] [])) cx [] (.l aUt n::aUu) (aQk a0 v1):=by
 intro n
 induction n with
 | zero=>intro v1 hi hn;exact absurd hn (eI _)
 | succ n ih =>
  intro v1 hi hn
  refine aR ?_
  cases h0:(decide ((v1:Int) < (a0.2.2.length:Int))) with
  | true =>
   have q0:=cJ h0
   let t1:List (St Tryz.prog):=[.d h0,.i v1 (a0.2.2.length),.L lQ a0.2.2 v1 0 1,.p (hG (c:=eW) (fun _=>rfl) (a0.2.2.getD (tN v1) dF))]
   cases h1:(decide (((((a0.2.2.getD (tN v1) dF).length:Nat):Int):Int) > 2000)) with
   | true =>
    have q1:=cJ h1
    have e:=Eq.refl (aC0 a0 v1);conv at e=>rhs;simp only [aC0,h0,h1,aT]
    rw [aJ,e]
    exact rt (t1++[.d h1]) [] [] hcx (by kernel_rfl)
   | false =>
    have q1:=cN h1
    have e:=Eq.refl (aC0 a0 v1);conv at e=>rhs;simp only [aC0,h0,h1,aT]
    rw [aI e]
    refine ba (t1++[.d h1]) [] [1,3] [4] hcx (m:=n) aUt (aUu) (aQk a0 (W (v1+1))) (by kernel_rfl) ?_
    have z0:(W (v1+1))=(v1+1):=aS (by omega) (by omega)
    rw [z0]
    exact ih (v1+1) (by omega) (by omega)
  | false =>
   have q0:=cN h0
   have e:=Eq.refl (aC0 a0 v1);conv at e=>rhs;simp only [aC0,h0,aT]
   rw [aJ,e]
   exact rt [.d h0] [] [] hcx (by kernel_rfl)
def F6 (a0:(List Int×bF)×(List (Int×Int×Bool))×List (List (Int×Int))):Bool :=
 (bif (decide (((a0.1.1.length:Int):Int) > 100)) then
  true
 else
  (bif (decide (((a0.1.2.length:Int):Int) > 200)) then
   true
  else
   (bif (decide (((a0.2.1.length:Int):Int) > 2000)) then
    true
   else
    (bif (decide (((a0.2.2.length:Int):Int) > 2000)) then
     true
    else
     (aH (aC0 a0) (tN ((a0.2.2.length:Int) - 0)+1) 0)))))
theorem C6 (a0:(List Int×bF)×(List (Int×Int×Bool))×List (List (Int×Int)))(l0_1_1:a0.1.1.length<=2^63-1)(l0_1_2:a0.1.2.length<=2^63-1)(l0_2_1:a0.2.1.length<=2^63-1)(l0_2_2:a0.2.2.length<=2^63-1):Con Tryz.prog 6 [(.a [(.s 0 0 a0.1.1.length 1),(.s 1 0 a0.1.2.length 8),(.s 2 0 a0.2.1.length 3),(.s 3 0 a0.2.2.length 1)])] [(.live false true (flat c3 a0.1.1)),(.live false true (flat cB a0.1.2)),(.live false true (flat fC a0.2.1)),(.live false true (flat jM a0.2.2))] (.v (.bool (F6 a0))) []:=by
 refine aY Tryz.func6 (by kernel_rfl) fun cx hcx=>?_
 cases h0:(decide (((a0.1.1.length:Int):Int) > 100)) with
 | true =>
  have q0:=cJ h0
  have e:=Eq.refl (F6 a0);conv at e=>rhs;simp only [F6,h0,aT]
  rw [e]
  exact rt [.d h0] [] [] hcx (by kernel_rfl)
 | false =>
  have q0:=cN h0
  let t1:List (St Tryz.prog):=[.d h0]
  cases h1:(decide (((a0.1.2.length:Int):Int) > 200)) with
  | true =>
   have q1:=cJ h1
   have e:=Eq.refl (F6 a0);conv at e=>rhs;simp only [F6,h0,h1,aT]
   rw [e]
   exact rt (t1++[.d h1]) [] [] hcx (by kernel_rfl)
  | false =>
   have q1:=cN h1
   let t2:List (St Tryz.prog):=(t1++[.d h1])
   cases h2:(decide (((a0.2.1.length:Int):Int) > 2000)) with
   | true =>
    have q2:=cJ h2
    have e:=Eq.refl (F6 a0);conv at e=>rhs;simp only [F6,h0,h1,h2,aT]
    rw [e]
    exact rt (t2++[.d h2]) [] [] hcx (by kernel_rfl)
   | false =>
    have q2:=cN h2
    let t3:List (St Tryz.prog):=(t2++[.d h2])
    cases h3:(decide (((a0.2.2.length:Int):Int) > 2000)) with
    | true =>
     have q3:=cJ h3
     have e:=Eq.refl (F6 a0);conv at e=>rhs;simp only [F6,h0,h1,h2,h3,aT]
     rw [e]
     exact rt (t3++[.d h3]) [] [] hcx (by kernel_rfl)
    | false =>
     have q3:=cN h3
     have e:=Eq.refl (F6 a0);conv at e=>rhs;simp only [F6,h0,h1,h2,h3,aT]
     rw [e]
     refine en (t3++[.d h3]) [] [1,3] [4] hcx aUt (aUu) (aQk a0 0) (tN ((a0.2.2.length:Int) - 0)+1) (by kernel_rfl) ?_
     exact aXk a0 l0_1_1 l0_1_2 l0_2_1 l0_2_2 hcx (tN ((a0.2.2.length:Int) - 0)+1) 0 (by omega) (by omega)
noncomputable def yG:Code:=(aM [1,1,0,1] [] (aL Tryz.f12) []).1
noncomputable def yH:List K:=(aM [1,1,0,1] [] (aL Tryz.f12) []).2
def vA (a0:List (Int×Int))(a1:List (Int×Int))(v1:Int):LS:=⟨gD 26 [(0,(.s 0 0 a0.length 2)),(1,(.s 1 0 a1.length 2)),(5,(iv v1))],[(.live false true (flat eW a0)),(.live false true (flat eW a1))]⟩
def iI (a0:List (Int×Int))(a1:List (Int×Int)):Int->(Int)⊕(Bool)
 | v1 =>
  (bif (decide ((v1:Int) < (a0.length:Int))) then
   (bif (!((((a0.getD (tN v1) dF).1:Int) == (a1.getD (tN v1) dF).1)&&((((a0.getD (tN v1) dF).2:Int) == (a1.getD (tN v1) dF).2)&&true))) then
    (.inr false)
   else
    (.inl (v1+1)))
  else
   (.inr true))
theorem aNg (a0:List (Int×Int))(a1:List (Int×Int))(l0:a0.length<=2^63-1)(l1:a1.length<=2^63-1) {cx:Cx} (hcx:cx.base=2):∀(n:Nat) (v1:Int),(0<=v1)/\(a0.length=a1.length)->tN ((a0.length:Int) - v1) < n->Aw.Good Tryz.prog none 9 (bodyPost Tryz.prog Tryz.f12 (RR cx (.v (.bool (aH (iI a0 a1) n v1))) [] [])) cx [] (.l yG n::yH) (vA a0 a1 v1):=by
 intro n
 induction n with
 | zero=>intro v1 hi hn;exact absurd hn (eI _)
 | succ n ih =>
  intro v1 hi hn
  refine aR ?_
  cases h0:(decide ((v1:Int) < (a0.length:Int))) with
  | true =>
   have q0:=cJ h0
   let t1:List (St Tryz.prog):=[.d h0,.i v1 (a0.length),.L dM a0 v1 0 2,.i v1 (a1.length),.L dM a1 v1 0 2]
   cases h1:(!((((a0.getD (tN v1) dF).1:Int) == (a1.getD (tN v1) dF).1)&&((((a0.getD (tN v1) dF).2:Int) == (a1.getD (tN v1) dF).2)&&true))) with
   | true =>
    have e:=Eq.refl (iI a0 a1 v1);conv at e=>rhs;simp only [iI,h0,h1,aT]
    rw [aJ,e]
    exact rt (t1++[.d h1]) [] [] hcx (by kernel_rfl)
   | false =>
    have e:=Eq.refl (iI a0 a1 v1);conv at e=>rhs;simp only [iI,h0,h1,aT]
    rw [aI e]
    refine ba (t1++[.d h1]) [] [0,1,5] [] hcx (m:=n) yG (yH) (vA a0 a1 (W (v1+1))) (by kernel_rfl) ?_
    have z0:(W (v1+1))=(v1+1):=aS (by omega) (by omega)
    rw [z0]
    exact ih (v1+1) (by refine⟨?_,?_⟩<;>(try simp only [Ls])<;>first | omega | assumption | simp) (by omega)
  | false =>
   have q0:=cN h0
   have e:=Eq.refl (iI a0 a1 v1);conv at e=>rhs;simp only [iI,h0,aT]
   rw [aJ,e]
   exact rt [.d h0] [] [] hcx (by kernel_rfl)
def mW (a0:List (Int×Int))(a1:List (Int×Int)):Bool :=
 (bif (((a0.length:Int):Int) != (a1.length:Int)) then
  false
 else
  (aH (iI a0 a1) (tN ((a0.length:Int) - 0)+1) 0))
theorem aSj (a0:List (Int×Int))(a1:List (Int×Int))(l0:a0.length<=2^63-1)(l1:a1.length<=2^63-1):Con Tryz.prog 12 [(.s 0 0 a0.length 2),(.s 1 0 a1.length 2)] [(.live false true (flat eW a0)),(.live false true (flat eW a1))] (.v (.bool (mW a0 a1))) []:=by
 refine aY Tryz.func12 (by kernel_rfl) fun cx hcx=>?_
 cases h0:(((a0.length:Int):Int) != (a1.length:Int)) with
 | true =>
  have q0:=bne_iff_ne.1 h0
  have e:=Eq.refl (mW a0 a1);conv at e=>rhs;simp only [mW,h0,aT]
  rw [e]
  exact rt [.d h0] [] [] hcx (by kernel_rfl)
 | false =>
  have q0:=bne_eq_false_iff_eq.1 h0
  have e:=Eq.refl (mW a0 a1);conv at e=>rhs;simp only [mW,h0,aT]
  rw [e]
  refine en [.d h0] [] [0,1,5] [] hcx yG (yH) (vA a0 a1 0) (tN ((a0.length:Int) - 0)+1) (by kernel_rfl) ?_
  exact aNg a0 a1 l0 l1 hcx (tN ((a0.length:Int) - 0)+1) 0 (by refine⟨?_,?_⟩<;>(try simp only [Ls])<;>first | omega | assumption | simp) (by omega)
theorem aQl {f c u:Int} (h:f<=c/\c<=u):rg f c++rg c u=rg f u:=by
 obtain⟨d,hd⟩:∃d:Nat,tN (c - f)=d:=⟨_,rfl⟩
 induction d generalizing f with
 | zero=>rw [show c=f by omega,aUq (Int.le_refl f)];rfl
 | succ d ih=>rw [aL1 (f:=f) (u:=c) (by omega),List.cons_append,ih ⟨by omega,h.2⟩ (by omega),←aL1 (f:=f) (u:=u) (by omega)]
theorem aSk {n i f c u:Int} (h:f<=c/\c<=u):row n i f c++row n i c u=row n i f u:=by
 unfold row
 rw [←List.map_append,aQl h]
theorem aSl {α β:Type} (l:List α)(f g:α->List β):(l.flatMap f++l.flatMap g).Perm (l.flatMap fun x=>f x++g x):=by
 induction l with
 | nil=>exact List.Perm.refl _
 | cons x l ih =>
  rw [List.flatMap_cons,List.flatMap_cons,List.flatMap_cons]
  refine List.Perm.trans ?_ (List.Perm.append_left (f x++g x) ih)
  rw [List.append_assoc,List.append_assoc]
  refine List.Perm.append_left (f x) ?_
  rw [←List.append_assoc,←List.append_assoc]
  exact List.Perm.append_right _ List.perm_append_comm
def cel (n f u f' u':Int):List Int:=(rg f u).flatMap fun a=>row n a f' u'
theorem aSm {n f c u f' u':Int} (h:f<=c/\c<=u):cel n f c f' u'++cel n c u f' u'=cel n f u f' u':=by
 unfold cel
 rw [←List.flatMap_append,aQl h]
theorem aQm {n f u f' c u':Int} (h:f'<=c/\c<=u'):(cel n f u f' c++cel n f u c u').Perm (cel n f u f' u'):=by
 unfold cel
 refine(aSl _ _ _).trans ?_
 rw [aB9 (rg f u) (fun a _=>aSk h)]
theorem wK (w:Int):∀(nr:Nat) (t:TR) (i k sep:Int) (m:Nat) (f u h:Int) (m':Nat) (f' u' h':Int),TRE t.2 (tN i) m f u h->TRE t.2 (tN k) m' f' u' h'->0<=i->0<=k->(t.2.length - tN i)+(t.2.length - tN k) < nr ->
 ((cF nr t i k sep).flatMap (aJ4 w t.2)).Perm (cel w f u f' u')/\∀x∈cF nr t i k sep,(0<=x.1/\x.1 < t.2.length)/\(0<=x.2.1/\x.2.1 < t.2.length)
 | 0,_,_,_,_,_,_,_,_,_,_,_,_,_,_,_,_,h=>absurd h (eI _)
 | nr+1,t,i,k,sep,m,f,u,h,m',f',u',h',H,K,hi,hk,hn=>by
  have hb:=cG H
  have kb:=cG K
  have hs:∀b:Bool,(([(i,k,b)]:List BLK).flatMap (aJ4 w t.2)).Perm (cel w f u f' u')/\∀x∈([(i,k,b)]:List BLK),(0<=x.1/\x.1 < t.2.length)/\(0<=x.2.1/\x.2.1 < t.2.length):=by
   intro b
   refine⟨?_,fun x hx=>?_⟩
   ·rw [List.flatMap_cons,List.flatMap_nil,List.append_nil]
    unfold aJ4 cel
    simp only
    rw [hb.2.2.2.2.2.1,hb.2.2.2.2.2.2,kb.2.2.2.2.2.1,kb.2.2.2.2.2.2]
   ·obtain rfl:=List.mem_singleton.1 hx
    exact⟨⟨hi,by simp only;omega⟩,hk,by simp only;omega⟩
  have hA:¬(t.2.getD (tN i) dF).2.2.1 < 0->((fO (cF nr) t i k sep++eY (cF nr) t i k sep).flatMap (aJ4 w t.2)).Perm (cel w f u f' u')/\∀x∈fO (cF nr) t i k sep++eY (cF nr) t i k sep,(0<=x.1/\x.1 < t.2.length)/\(0<=x.2.1/\x.2.1 < t.2.length):=by
   intro hq
   rcases iF H with⟨_,_,h5,_⟩ | ⟨m1,m2,c,h1,h2,e8,g4,g5,b1,b2,e9⟩
   ·omega
   ·have l1:=cG b1
    have l2:=cG b2
    have c1:=wK w nr t (t.2.getD (tN i) dF).2.2.1 k sep m1 f c h1 m' f' u' h' (by rw [g4,fZ];exact b1) K (by omega) hk (by omega)
    have c2:=wK w nr t (t.2.getD (tN i) dF).2.2.2.1 k sep m2 c u h2 m' f' u' h' (by rw [g5,fZ];exact b2) K (by omega) hk (by omega)
    refine⟨?_,fun x hx=>?_⟩
    ·rw [List.flatMap_append,←aSm (c:=c) (by omega)]
     exact c1.1.append c2.1
    ·rcases List.mem_append.1 hx with hx | hx
     ·exact c1.2 x hx
     ·exact c2.2 x hx
  have hB:¬(t.2.getD (tN k) dF).2.2.1 < 0->((dS (cF nr) t i k sep++dK (cF nr) t i k sep).flatMap (aJ4 w t.2)).Perm (cel w f u f' u')/\∀x∈dS (cF nr) t i k sep++dK (cF nr) t i k sep,(0<=x.1/\x.1 < t.2.length)/\(0<=x.2.1/\x.2.1 < t.2.length):=by
   intro hq
   rcases iF K with⟨_,_,h5,_⟩ | ⟨m1,m2,c,h1,h2,e8,g4,g5,b1,b2,e9⟩
   ·omega
   ·have l1:=cG b1
    have l2:=cG b2
    have c1:=wK w nr t i (t.2.getD (tN k) dF).2.2.1 sep m f u h m1 f' c h1 H (by rw [g4,fZ];exact b1) hi (by omega) (by omega)
    have c2:=wK w nr t i (t.2.getD (tN k) dF).2.2.2.1 sep m f u h m2 c u' h2 H (by rw [g5,fZ];exact b2) hi (by omega) (by omega)
    refine⟨?_,fun x hx=>?_⟩
    ·rw [List.flatMap_append]
     exact(c1.1.append c2.1).trans (aQm (by omega))
    ·rcases List.mem_append.1 hx with hx | hx
     ·exact c1.2 x hx
     ·exact c2.2 x hx
  have hJ:((fA (cF nr) t i k sep ()).flatMap (aJ4 w t.2)).Perm (cel w f u f' u')/\∀x∈fA (cF nr) t i k sep (),(0<=x.1/\x.1 < t.2.length)/\(0<=x.2.1/\x.2.1 < t.2.length):=by
   simp only [fA]
   by_cases z5:(t.2.getD (tN i) dF).2.2.1 < 0<;>by_cases z6:(t.2.getD (tN k) dF).2.2.1 < 0
   ·rw [cH z5,cH z6,cond_true,cond_true];exact hs false
   ·rw [cH z5,dA z6,cond_true,cond_false,dA (show ¬(t.2.getD (tN i) dF).2.2.1≥0 by omega),cond_false];exact hB z6
   ·rw [dA z5,cH z6,cond_false,cond_true];exact hA z5
   ·rw [dA z5,dA z6,cond_false,cond_false,cH (show(t.2.getD (tN i) dF).2.2.1≥0 by omega),cond_true,Bool.cond_eq_ite]
    split
    ·exact hA z5
    ·exact hB z6
  simp only [cF]
  rw [Bool.cond_eq_ite]
  split
  ·rw [Bool.cond_eq_ite]
   split
   ·exact hs true
   ·exact hJ
  ·exact hJ
theorem aAc {l:gX} {t:TR} (sep:Int)(h:gR l t=0):((F42 t sep).flatMap (aJ4 l.length t.2)).Perm (cel l.length 0 l.length 0 l.length)/\(∀x∈F42 t sep,(0<=x.1/\x.1 < t.2.length)/\(0<=x.2.1/\x.2.1 < t.2.length))/\(F42 t sep).length<=9216:=by
 obtain⟨hv,leaf,h1,_,rfl⟩:=uU h
 have hl:=hv.1
 rcases aFo l h1 with⟨e0,e⟩ | ⟨hh,H⟩
 ·rw [e,e0]
  exact⟨List.Perm.refl _,⟨fun x hx=>(by cases hx),Nat.zero_le _⟩⟩
 ·have hw:=cG H
  unfold F42
  rw [show((((BT l leaf).2.length:Nat):Int) == 0)=false by rw [beq_eq_false_iff_ne];omega,cond_false]
  simp only [F63]
  have qa:=wK l.length _ (BT l leaf) 0 0 sep _ _ _ _ _ _ _ _ H H (Int.le_refl _) (Int.le_refl _) (lss _)
  have qb:=mV _ (BT l leaf) 0 0 sep _ _ _ _ _ _ _ _ H H (Int.le_refl _) (Int.le_refl _) (lss _)
  refine⟨qa.1,qa.2,?_⟩
  have hm:((l.length:Int) - 0)*((l.length:Int) - 0)<=96*96:=Int.mul_le_mul (by omega) (by omega) (by omega) (by omega)
  exact Int.ofNat_le.1 (Int.le_trans qb hm)
theorem aMe (a b:List BLK):lR a b=jR a b:=rfl
theorem aQn {a b:List BLK} (h:jR a b=true):a=b:=by
 unfold jR at h
 by_cases hl:a.length=b.length
 ·rw [show(((a.length:Int):Int) != (b.length:Int))=false by rw [hl];simp,cond_false] at h
  refine aB8 hl (zX (N:=a.length) (p:=fun j=>a.getD j dF=b.getD j dF) (fun i hi=>?_) a.length 0 _ (by omega) (by omega) (by omega) h · (Nat.zero_le _) ·)
  simp only [jB,fZ]
  rw [cH (show((i:Nat):Int) < (a.length:Nat) by omega),cond_true]
  generalize a.getD i dF=x
  generalize b.getD i dF=y
  obtain⟨x1,x2,x3⟩:=x
  obtain⟨y1,y2,y3⟩:=y
  dsimp only
  rw [Bool.cond_eq_ite]
  split
  ·exact .inr rfl
  ·rename_i hq
   refine .inl ⟨rfl,?_⟩
   simp at hq ⊢
   exact⟨hq.1,hq.2.1,hq.2.2⟩
 ·rw [show(((a.length:Int):Int) != (b.length:Int))=true by rw [bne_iff_ne];omega,cond_true] at h
  cases h
def FND (o:uX)(b:Bool):Prop:=b=true->∃sep:Int,o.2.1=F42 o.1 sep
theorem pS {o:uX}:FND o false:=fun h=>by cases h
theorem pT {o:uX} {sep:Int}:FND o (jR o.2.1 (F42 (o.1.1,o.1.2) sep)):=fun h=>⟨sep,aQn h⟩
theorem rJ {l:gX} {o:uX} (hc:gR l (o.1.1,o.1.2)=0) {sep:Int}:FND o (lR o.2.1 (F33 (o.1.1,o.1.2) sep)):=fun h=>⟨sep,by
 rw [aMe] at h
 have e:=aQn h
 rw [aFu (t:=(o.1.1,o.1.2)) sep hc] at e
 exact e⟩
theorem aSn {b:Bool} (h:(!b)=false):b=true:=by cases b;cases h;rfl
structure ACQ (l:gX) (o:uX):Prop where
 chk:gR l (o.1.1,o.1.2)=0
 blk:∃sep:Int,o.2.1=F42 o.1 sep
 len:o.2.2.length=o.2.1.length
theorem lE {l:gX} {o:uX} {b:Bool} (hc:gR l (o.1.1,o.1.2)=0)(hf:FND o b)(hb:(!b)=false)(hl:(((o.2.2.length:Int):Int) != (o.2.1.length:Int))=false):ACQ l o :=
 ⟨hc,hf (aSn hb),by have:=bne_eq_false_iff_eq.1 hl;omega⟩
theorem ACQ.dims {l:gX} {o:uX} (h:ACQ l o):o.1.1.length=l.length/\l.length<=96/\o.1.2.length<=192/\InR l.length o.1.1/\o.2.1.length<=9216:=by
 have hc:=h.chk
 obtain⟨k1,k2,k3,k4⟩:=aDf hc
 have ho:=aPz hc
 refine⟨k1,k2,k3,fun x hx=>?_,?_⟩
 ·obtain⟨j,hj,rfl⟩:=List.mem_iff_getElem.1 hx
  have:=ho (j:Int) (by omega)
  rwa [fZ,fV,List.getElem?_eq_getElem hj,Option.getD_some] at this
 ·obtain⟨sep,e⟩:=h.blk
  rw [e];exact(aAc sep hc).2.2
theorem ACQ.bf {l:gX} {o:uX} (h:ACQ l o) {j:Int} (h0:0<=j)(h1:j < (o.2.1.length:Int)) :
 (0<=(o.2.1.getD (tN j) dF).1/\(o.2.1.getD (tN j) dF).1 < o.1.2.length) /\
 (0<=(o.2.1.getD (tN j) dF).2.1/\(o.2.1.getD (tN j) dF).2.1 < o.1.2.length) /\
 (0<=(o.1.2.getD (tN (o.2.1.getD (tN j) dF).1) dF).1/\(o.1.2.getD (tN (o.2.1.getD (tN j) dF).1) dF).1<=(o.1.2.getD (tN (o.2.1.getD (tN j) dF).1) dF).2.1/\(o.1.2.getD (tN (o.2.1.getD (tN j) dF).1) dF).2.1<=o.1.1.length) /\
 (0<=(o.1.2.getD (tN (o.2.1.getD (tN j) dF).2.1) dF).1/\(o.1.2.getD (tN (o.2.1.getD (tN j) dF).2.1) dF).1<=(o.1.2.getD (tN (o.2.1.getD (tN j) dF).2.1) dF).2.1/\(o.1.2.getD (tN (o.2.1.getD (tN j) dF).2.1) dF).2.1<=o.1.1.length):=by
 have hc:=h.chk
 obtain⟨k1,k2,k3,k4⟩:=aDf hc
 obtain⟨sep,e0⟩:=h.blk
 have hb:=(aAc sep hc).2.1
 change ∀x∈F42 o.1 sep,_ at hb
 rw [←e0] at hb
 have hlt:tN j < o.2.1.length:=by omega
 have hx:=hb _ (List.getElem_mem hlt)
 have e:o.2.1.getD (tN j) dF=o.2.1[tN j]:=by
  rw [fV,List.getElem?_eq_getElem hlt];rfl
 rw [e]
 generalize o.2.1[tN j]=b at *
 obtain⟨⟨a1,a2⟩,⟨b1,b2⟩⟩:=hx
 have n1:=k4.2.2 (tN b.1) (by simp only at a2 ⊢;omega)
 have n2:=k4.2.2 (tN b.2.1) (by simp only at b2 ⊢;omega)
 exact⟨⟨a1,a2⟩,⟨b1,b2⟩,⟨n1.1,by omega,n1.2.2⟩,⟨n2.1,by omega,n2.2.2⟩⟩
noncomputable def aAd:Code:=(aM [1,1,1,1,1,0,1] [] (aL Tryz.f21) []).1
noncomputable def aAe:List K:=(aM [1,1,1,1,1,0,1] [] (aL Tryz.f21) []).2
def wL (a0:bO)(a1:(List Int×bF)×(List (Int×Int×Bool))×List (List (Int×Int)))(v3:Int):LS:=⟨gD 71 [(3,(.p 5 0)),(44,(.s 3 0 a1.2.1.length 3)),(45,(iv (a1.2.1.length:Int))),(46,(iv v3))],[(.live false true (flat dC a0)),(.live false true (flat c3 a1.1.1)),(.live false true (flat cB a1.1.2)),(.live false true (flat fC a1.2.1)),(.live false true (flat jM a1.2.2)),(.live true false [(.s 1 0 a1.1.1.length 1),(.s 2 0 a1.1.2.length 8),(.s 3 0 a1.2.1.length 3),(.s 4 0 a1.2.2.length 1)])]⟩
def jC (a0:bO)(a1:(List Int×bF)×(List (Int×Int×Bool))×List (List (Int×Int))):Int->(Int)⊕(Int)
 | v3 =>
  (bif (decide ((v3:Int) < (a1.2.1.length:Int))) then
   (bif (((((a1.2.2.getD (tN v3) dF).length:Nat):Int):Int) != (F34 (a1.1.1,a1.1.2) (a1.2.1.getD (tN v3) dF))) then
    (.inr 1)
   else
    (bif (pR (a1.2.2.getD (tN v3) dF)) then
     (.inr 1)
    else
     (.inl (v3+1))))
  else
   (.inr 0))
noncomputable def aF7:Code:=(aM [1,1,1,0,1] [] (aL Tryz.f21) []).1
noncomputable def aF8:List K:=(aM [1,1,1,0,1] [] (aL Tryz.f21) []).2
def aCl (a0:bO)(a1:(List Int×bF)×(List (Int×Int×Bool))×List (List (Int×Int)))(v1:Bool)(v2:Int):LS:=⟨gD 71 [(3,(.p 5 0)),(6,(.v (.bool v1))),(7,(iv v2))],[(.live false true (flat dC a0)),(.live false true (flat c3 a1.1.1)),(.live false true (flat cB a1.1.2)),(.live false true (flat fC a1.2.1)),(.live false true (flat jM a1.2.2)),(.live true false [(.s 1 0 a1.1.1.length 1),(.s 2 0 a1.1.2.length 8),(.s 3 0 a1.2.1.length 3),(.s 4 0 a1.2.2.length 1)])]⟩
def gW (a0:bO)(a1:(List Int×bF)×(List (Int×Int×Bool))×List (List (Int×Int))):Bool×Int->(Bool×Int)⊕(Int)
 | (v1,v2) =>
  (bif (decide ((v2:Int)<=16)) then
   (bif (!v1) then
    (.inl ((lR a1.2.1 (F33 (a1.1.1,a1.1.2) v2)),(v2+1)))
   else
    (bif (((a1.2.2.length:Int):Int) != (a1.2.1.length:Int)) then
     (.inr 1)
    else
     (.inr (aH (jC a0 a1) (tN ((a1.2.1.length:Int) - 0)+1) 0))))
  else
   (bif (!v1) then
    (.inr 1)
   else
    (bif (((a1.2.2.length:Int):Int) != (a1.2.1.length:Int)) then
     (.inr 1)
    else
     (.inr (aH (jC a0 a1) (tN ((a1.2.1.length:Int) - 0)+1) 0)))))
theorem aMf (a0:bO)(a1:(List Int×bF)×(List (Int×Int×Bool))×List (List (Int×Int)))(l0:a0.length<=2^63-1)(l1_1_1:a1.1.1.length<=2^63-1)(l1_1_2:a1.1.2.length<=2^63-1)(l1_2_1:a1.2.1.length<=2^63-1)(l1_2_2:a1.2.2.length<=2^63-1)(hsl:∀j:Nat,(a1.2.2.getD j dF).length<=10000) {cx:Cx} (hcx:cx.base=5):∀(n:Nat) (v3:Int),(0<=v3)/\(ACQ a0 a1)/\(v3<=(a1.2.1.length:Int))->tN ((a1.2.1.length:Int) - v3) < n->Aw.Good Tryz.prog none 9 (bodyPost Tryz.prog Tryz.f21 (RR cx (iv (aH (jC a0 a1) n v3)) [] [])) cx [] (.l aAd n::aAe) (wL a0 a1 v3):=by
 intro n
 induction n with
 | zero=>intro v3 hi hn;exact absurd hn (eI _)
 | succ n ih =>
  intro v3 hi hn
  refine aR ?_
  have haq:=hi.2.1
  have had:=haq.dims
  have hal:=haq.len
  have hsb:=hsl (tN v3)
  cases h0:(decide ((v3:Int) < (a1.2.1.length:Int))) with
  | true =>
   have q0:=cJ h0
   try have hb:=haq.bf (j:=v3) hi.1 (by have _:=cJ h0;omega)
   try have hb1:=(fun _=>hb.1) h0
   try have hb2:=(fun _=>hb.2.1) h0
   try have hb3:=(fun _=>hb.2.2.1) h0
   try have hb4:=(fun _=>hb.2.2.2) h0
   let t1:List (St Tryz.prog):=[.d h0,.i v3 (a1.2.1.length),.L eF a1.2.1 v3 0 3,.i v3 (a1.2.2.length),.L lQ a1.2.2 v3 0 1,.p (hG (c:=eW) (fun _=>rfl) (a1.2.2.getD (tN v3) dF)),.c [1,2] (C34 (a1.1.1,a1.1.2) (a1.2.1.getD (tN v3) dF) (by omega) (by omega) ⟨hb1,hb2⟩)]
   cases h1:(((((a1.2.2.getD (tN v3) dF).length:Nat):Int):Int) != (F34 (a1.1.1,a1.1.2) (a1.2.1.getD (tN v3) dF))) with
   | true =>
    have q1:=bne_iff_ne.1 h1
    try have hb:=haq.bf (j:=v3) hi.1 (by have _:=cJ h0;omega)
    try have hb1:=(fun _=>hb.1) h0
    try have hb2:=(fun _=>hb.2.1) h0
    try have hb3:=(fun _=>hb.2.2.1) h0
    try have hb4:=(fun _=>hb.2.2.2) h0
    have e:=Eq.refl (jC a0 a1 v3);conv at e=>rhs;simp only [jC,h0,h1,aT]
    rw [aJ,e]
    exact rt (t1++[.d h1]) [] [] hcx (by kernel_rfl)
   | false =>
    have q1:=bne_eq_false_iff_eq.1 h1
    try have hb:=haq.bf (j:=v3) hi.1 (by have _:=cJ h0;omega)
    try have hb1:=(fun _=>hb.1) h0
    try have hb2:=(fun _=>hb.2.1) h0
    try have hb3:=(fun _=>hb.2.2.1) h0
    try have hb4:=(fun _=>hb.2.2.2) h0
    let t2:List (St Tryz.prog):=(t1++[.d h1,.i v3 (a1.2.2.length),.L lQ a1.2.2 v3 0 1,.p (hG (c:=eW) (fun _=>rfl) (a1.2.2.getD (tN v3) dF)),.c [8] (aNf (a1.2.2.getD (tN v3) dF) (by omega))])
    cases h2:(pR (a1.2.2.getD (tN v3) dF)) with
    | true =>
     try have hb:=haq.bf (j:=v3) hi.1 (by have _:=cJ h0;omega)
     try have hb1:=(fun _=>hb.1) h0
     try have hb2:=(fun _=>hb.2.1) h0
     try have hb3:=(fun _=>hb.2.2.1) h0
     try have hb4:=(fun _=>hb.2.2.2) h0
     have e:=Eq.refl (jC a0 a1 v3);conv at e=>rhs;simp only [jC,h0,h1,h2,aT]
     rw [aJ,e]
     exact rt (t2++[.d h2]) [] [] hcx (by kernel_rfl)
    | false =>
     try have hb:=haq.bf (j:=v3) hi.1 (by have _:=cJ h0;omega)
     try have hb1:=(fun _=>hb.1) h0
     try have hb2:=(fun _=>hb.2.1) h0
     try have hb3:=(fun _=>hb.2.2.1) h0
     try have hb4:=(fun _=>hb.2.2.2) h0
     have e:=Eq.refl (jC a0 a1 v3);conv at e=>rhs;simp only [jC,h0,h1,h2,aT]
     rw [aI e]
     refine ba (t2++[.d h2]) [] [3,44,45,46] [5] hcx (m:=n) aAd (aAe) (wL a0 a1 (W (v3+1))) (by kernel_rfl) ?_
     have z0:(W (v3+1))=(v3+1):=aS (by omega) (by omega)
     rw [z0]
     exact ih (v3+1) (by(repeat' apply And.intro)<;>first | omega | assumption | exact pS | exact pT | exact rJ hck | exact lE hck hi.2.2.1 (by assumption) (by assumption)) (by omega)
  | false =>
   have q0:=cN h0
   have e:=Eq.refl (jC a0 a1 v3);conv at e=>rhs;simp only [jC,h0,aT]
   rw [aJ,e]
   exact rt [.d h0] [] [] hcx (by kernel_rfl)
theorem aSo (a0:bO)(a1:(List Int×bF)×(List (Int×Int×Bool))×List (List (Int×Int)))(l0:a0.length<=2^63-1)(l1_1_1:a1.1.1.length<=2^63-1)(l1_1_2:a1.1.2.length<=2^63-1)(l1_2_1:a1.2.1.length<=2^63-1)(l1_2_2:a1.2.2.length<=2^63-1)(hsl:∀j:Nat,(a1.2.2.getD j dF).length<=10000) {cx:Cx} (hcx:cx.base=5):∀(n:Nat) (v1:Bool) (v2:Int),(0<=v2)/\(gR a0 (a1.1.1,a1.1.2)=0)/\(FND a1 v1)/\(1<=v2)->tN (16 - v2+1) < n->Aw.Good Tryz.prog none 9 (bodyPost Tryz.prog Tryz.f21 (RR cx (iv (aH (gW a0 a1) n (v1,v2))) [] [])) cx [] (.l aF7 n::aF8) (aCl a0 a1 v1 v2):=by
 intro n
 induction n with
 | zero=>intro v1 v2 hi hn;exact absurd hn (eI _)
 | succ n ih =>
  intro v1 v2 hi hn
  refine aR ?_
  have hck:=hi.2.1
  have hbl:(F33 (a1.1.1,a1.1.2) v2).length<=9216:=by rw [aFu v2 hck];exact(aAc v2 hck).2.2
  cases h0:(decide ((v2:Int)<=16)) with
  | true =>
   have q0:=cJ h0
   let t1:List (St Tryz.prog):=[.d h0]
   cases h1:(!v1) with
   | true =>
    have e:=Eq.refl (gW a0 a1 (v1,v2));conv at e=>rhs;simp only [gW,h0,h1,aT]
    rw [aI e]
    refine ba (t1++[.d h1,.c [1,2] (C33 (a1.1.1,a1.1.2) v2 (by omega) (by omega) (fun q=>aL0 hck q)),.c [3,6] (aSi a1.2.1 (F33 (a1.1.1,a1.1.2) v2) (by omega) (by omega))]) [] [3,6,7] [5] hcx (m:=n) aF7 (aF8) (aCl a0 a1 (lR a1.2.1 (F33 (a1.1.1,a1.1.2) v2)) (W (v2+1))) (by kernel_rfl) ?_
    have z0:(W (v2+1))=(v2+1):=aS (by omega) (by omega)
    rw [z0]
    exact ih (lR a1.2.1 (F33 (a1.1.1,a1.1.2) v2)) (v2+1) (by(repeat' apply And.intro)<;>first | omega | assumption | exact pS | exact pT | exact rJ hck | exact lE hck hi.2.2.1 (by assumption) (by assumption)) (by omega)
   | false =>
    let t2:List (St Tryz.prog):=(t1++[.d h1,.d h1])
    cases h2:(((a1.2.2.length:Int):Int) != (a1.2.1.length:Int)) with
    | true =>
     have q2:=bne_iff_ne.1 h2
     have e:=Eq.refl (gW a0 a1 (v1,v2));conv at e=>rhs;simp only [gW,h0,h1,h2,aT]
     rw [aJ,e]
     exact rt (t2++[.d h2]) [] [] hcx (by kernel_rfl)
    | false =>
     have q2:=bne_eq_false_iff_eq.1 h2
     have e:=Eq.refl (gW a0 a1 (v1,v2));conv at e=>rhs;simp only [gW,h0,h1,h2,aT]
     rw [aJ,e]
     refine en (t2++[.d h2]) [] [3,44,45,46] [5] hcx aAd (aAe) (wL a0 a1 0) (tN ((a1.2.1.length:Int) - 0)+1) (by kernel_rfl) ?_
     exact aMf a0 a1 l0 l1_1_1 l1_1_2 l1_2_1 l1_2_2 hsl hcx (tN ((a1.2.1.length:Int) - 0)+1) 0 (by(repeat' apply And.intro)<;>first | omega | assumption | exact pS | exact pT | exact rJ hck | exact lE hck hi.2.2.1 (by assumption) (by assumption)) (by omega)
  | false =>
   have q0:=cN h0
   let t1:List (St Tryz.prog):=[.d h0]
   cases h1:(!v1) with
   | true =>
    have e:=Eq.refl (gW a0 a1 (v1,v2));conv at e=>rhs;simp only [gW,h0,h1,aT]
    rw [aJ,e]
    exact rt (t1++[.d h1]) [] [] hcx (by kernel_rfl)
   | false =>
    let t2:List (St Tryz.prog):=(t1++[.d h1])
    cases h2:(((a1.2.2.length:Int):Int) != (a1.2.1.length:Int)) with
    | true =>
     have q2:=bne_iff_ne.1 h2
     have e:=Eq.refl (gW a0 a1 (v1,v2));conv at e=>rhs;simp only [gW,h0,h1,h2,aT]
     rw [aJ,e]
     exact rt (t2++[.d h2]) [] [] hcx (by kernel_rfl)
    | false =>
     have q2:=bne_eq_false_iff_eq.1 h2
     have e:=Eq.refl (gW a0 a1 (v1,v2));conv at e=>rhs;simp only [gW,h0,h1,h2,aT]
     rw [aJ,e]
     refine en (t2++[.d h2]) [] [3,44,45,46] [5] hcx aAd (aAe) (wL a0 a1 0) (tN ((a1.2.1.length:Int) - 0)+1) (by kernel_rfl) ?_
     exact aMf a0 a1 l0 l1_1_1 l1_1_2 l1_2_1 l1_2_2 hsl hcx (tN ((a1.2.1.length:Int) - 0)+1) 0 (by(repeat' apply And.intro)<;>first | omega | assumption | exact pS | exact pT | exact rJ hck | exact lE hck hi.2.2.1 (by assumption) (by assumption)) (by omega)
def tS (a0:bO)(a1:(List Int×bF)×(List (Int×Int×Bool))×List (List (Int×Int))):Int :=
 (bif (((tO a0 (a1.1.1,a1.1.2)):Int) != 0) then
  (tO a0 (a1.1.1,a1.1.2))
 else
  (aH (gW a0 a1) (tN (16 - 1+1)+1) (false,1)))
theorem aWy (a0:bO)(a1:(List Int×bF)×(List (Int×Int×Bool))×List (List (Int×Int)))(l0:a0.length<=2^63-1)(l1_1_1:a1.1.1.length<=2^63-1)(l1_1_2:a1.1.2.length<=2^63-1)(l1_2_1:a1.2.1.length<=2^63-1)(l1_2_2:a1.2.2.length<=2^63-1)(hsl:∀j:Nat,(a1.2.2.getD j dF).length<=10000):Con Tryz.prog 21 [(.s 0 0 a0.length 10),(.a [(.s 1 0 a1.1.1.length 1),(.s 2 0 a1.1.2.length 8),(.s 3 0 a1.2.1.length 3),(.s 4 0 a1.2.2.length 1)])] [(.live false true (flat dC a0)),(.live false true (flat c3 a1.1.1)),(.live false true (flat cB a1.1.2)),(.live false true (flat fC a1.2.1)),(.live false true (flat jM a1.2.2))] (iv (tS a0 a1)) []:=by
 refine aY Tryz.func21 (by kernel_rfl) fun cx hcx=>?_
 let t0:List (St Tryz.prog):=[.c [0,1,2] (aWl a0 (a1.1.1,a1.1.2) (by omega) (by omega) (by omega))]
 cases h0:(((tO a0 (a1.1.1,a1.1.2)):Int) != 0) with
 | true =>
  have q0:=bne_iff_ne.1 h0
  have e:=Eq.refl (tS a0 a1);conv at e=>rhs;simp only [tS,h0,aT]
  rw [e]
  exact rt (t0++[.d h0]) [] [] hcx (by kernel_rfl)
 | false =>
  have q0:=bne_eq_false_iff_eq.1 h0
  try have hck:gR a0 (a1.1.1,a1.1.2)=0:=by rw [←aHp];exact bne_eq_false_iff_eq.1 h0
  have e:=Eq.refl (tS a0 a1);conv at e=>rhs;simp only [tS,h0,aT]
  rw [e]
  refine en (t0++[.d h0]) [] [3,6,7] [5] hcx aF7 (aF8) (aCl a0 a1 false 1) (tN (16 - 1+1)+1) (by kernel_rfl) ?_
  exact aSo a0 a1 l0 l1_1_1 l1_1_2 l1_2_1 l1_2_2 hsl hcx (tN (16 - 1+1)+1) false 1 (by(repeat' apply And.intro)<;>first | omega | assumption | exact pS | exact pT | exact rJ hck | exact lE hck hi.2.2.1 (by assumption) (by assumption)) (by omega)
noncomputable def aF9:Code:=(aM [1,1,1,1,1,1,0,1,0,1,0,1,1] [0] (aL Tryz.f24) []).1
noncomputable def aGa (m0:Nat):List K:=(aM [1,1,1,1,1,1,0,1,0,1,0,1,1] [m0] (aL Tryz.f24) []).2
def aCm (a0:bO)(a1:(List Int×bF)×(List (Int×Int×Bool))×List (List (Int×Int)))(v5 v6:Int):LS:=⟨gD 85 [(3,(.p 5 0)),(8,(iv v5)),(9,(iv v6))],[(.live false true (flat dC a0)),(.live false true (flat c3 a1.1.1)),(.live false true (flat cB a1.1.2)),(.live false true (flat fC a1.2.1)),(.live false true (flat jM a1.2.2)),(.live true false [(.s 1 0 a1.1.1.length 1),(.s 2 0 a1.1.2.length 8),(.s 3 0 a1.2.1.length 3),(.s 4 0 a1.2.2.length 1)])]⟩
def gM (a0:bO)(a1:(List Int×bF)×(List (Int×Int×Bool))×List (List (Int×Int))):Int×Int->(Int×Int)⊕((Int)⊕(Int))
 | (v5,v6) =>
  (bif (decide ((v6:Int) < (((a1.2.2.getD (tN v5) dF).length:Nat):Int))) then
   (bif (!(xJ ((a1.2.2.getD (tN v5) dF).getD (tN v6) dF))) then
    (.inr (.inr 1))
   else
    (.inl (v5,(v6+1))))
  else
   (.inr (.inl (v5+1))))
noncomputable def wM:Code:=(aM [1,1,1,1,1,1,0,1] [] (aL Tryz.f24) []).1
noncomputable def wO:List K:=(aM [1,1,1,1,1,1,0,1] [] (aL Tryz.f24) []).2
def sJ (a0:bO)(a1:(List Int×bF)×(List (Int×Int×Bool))×List (List (Int×Int)))(v4:Int):LS:=⟨gD 85 [(3,(.p 5 0)),(8,(iv v4))],[(.live false true (flat dC a0)),(.live false true (flat c3 a1.1.1)),(.live false true (flat cB a1.1.2)),(.live false true (flat fC a1.2.1)),(.live false true (flat jM a1.2.2)),(.live true false [(.s 1 0 a1.1.1.length 1),(.s 2 0 a1.1.2.length 8),(.s 3 0 a1.2.1.length 3),(.s 4 0 a1.2.2.length 1)])]⟩
def gN (a0:bO)(a1:(List Int×bF)×(List (Int×Int×Bool))×List (List (Int×Int))):Int->(Int)⊕(Int)
 | v4 =>
  (bif (decide ((v4:Int) < (a1.2.2.length:Int))) then
   (bif (((((a1.2.2.getD (tN v4) dF).length:Nat):Int):Int) != (F43 (a1.1.1,a1.1.2) (a1.2.1.getD (tN v4) dF))) then
    (.inr 1)
   else
    (aH (gM a0 a1) (tN ((((a1.2.2.getD (tN v4) dF).length:Nat):Int) - 0)+1) (v4,0)))
  else
   (.inr 0))
noncomputable def aGb:Code:=(aM [1,1,1,1,0,1] [] (aL Tryz.f24) []).1
noncomputable def aGc:List K:=(aM [1,1,1,1,0,1] [] (aL Tryz.f24) []).2
def aCn (a0:bO)(a1:(List Int×bF)×(List (Int×Int×Bool))×List (List (Int×Int)))(v1:Bool)(v2:Int):LS:=⟨gD 85 [(3,(.p 5 0)),(6,(.v (.bool v1))),(7,(iv v2))],[(.live false true (flat dC a0)),(.live false true (flat c3 a1.1.1)),(.live false true (flat cB a1.1.2)),(.live false true (flat fC a1.2.1)),(.live false true (flat jM a1.2.2)),(.live true false [(.s 1 0 a1.1.1.length 1),(.s 2 0 a1.1.2.length 8),(.s 3 0 a1.2.1.length 3),(.s 4 0 a1.2.2.length 1)])]⟩
def gA (a0:bO)(a1:(List Int×bF)×(List (Int×Int×Bool))×List (List (Int×Int))):Bool×Int->(Bool×Int)⊕(Int)
 | (v1,v2) =>
  (bif (decide ((v2:Int)<=16)) then
   (bif (!v1) then
    (.inl ((jR a1.2.1 (F42 (a1.1.1,a1.1.2) v2)),(v2+1)))
   else
    (bif (((a1.2.2.length:Int):Int) != (a1.2.1.length:Int)) then
     (.inr 1)
    else
     (.inr (aH (gN a0 a1) (tN ((a1.2.2.length:Int) - 0)+1) 0))))
  else
   (bif (!v1) then
    (.inr 1)
   else
    (bif (((a1.2.2.length:Int):Int) != (a1.2.1.length:Int)) then
     (.inr 1)
    else
     (.inr (aH (gN a0 a1) (tN ((a1.2.2.length:Int) - 0)+1) 0)))))
theorem aSp (a0:bO)(a1:(List Int×bF)×(List (Int×Int×Bool))×List (List (Int×Int)))(l0:a0.length<=2^63-1)(l1_1_1:a1.1.1.length<=2^63-1)(l1_1_2:a1.1.2.length<=2^63-1)(l1_2_1:a1.2.1.length<=2^63-1)(l1_2_2:a1.2.2.length<=2^63-1)(hsl:∀j:Nat,(a1.2.2.getD j dF).length<=10000) {cx:Cx} (hcx:cx.base=5)
 (n0:Nat) (g0:∀(v4:Int),(0<=v4)/\(ACQ a0 a1)/\(v4<=(a1.2.2.length:Int))->tN ((a1.2.2.length:Int) - v4) < n0->Aw.Good Tryz.prog none 9 (bodyPost Tryz.prog Tryz.f24 (RR cx (iv (aH (gN a0 a1) n0 v4)) [] [])) cx [] (.l wM n0::wO) (sJ a0 a1 v4)):∀(n:Nat) (v5 v6:Int),(0<=v6)/\(v6<=(((a1.2.2.getD (tN v5) dF).length:Nat):Int))/\((0<=v5))/\((ACQ a0 a1))/\((v5<=(a1.2.2.length:Int)))/\(v5 < (a1.2.2.length:Int))/\(tN ((a1.2.2.length:Int) - v5) < n0+1)->tN ((((a1.2.2.getD (tN v5) dF).length:Nat):Int) - v6) < n->Aw.Good Tryz.prog none 9 (bodyPost Tryz.prog Tryz.f24 (RR cx (iv (bA (gN a0 a1) n0 (aH (gM a0 a1) n (v5,v6)))) [] [])) cx [] (.l aF9 n::aGa n0) (aCm a0 a1 v5 v6):=by
 intro n
 induction n with
 | zero=>intro v5 v6 hi hn;exact absurd hn (eI _)
 | succ n ih =>
  intro v5 v6 hi hn
  refine aR ?_
  have hsb:=hsl (tN v5)
  have haq:=hi.2.2.2.1
  let t0:List (St Tryz.prog):=[.i v5 (a1.2.2.length),.L lQ a1.2.2 v5 0 1,.p (hG (c:=eW) (fun _=>rfl) (a1.2.2.getD (tN v5) dF))]
  cases h0:(decide ((v6:Int) < (((a1.2.2.getD (tN v5) dF).length:Nat):Int))) with
  | true =>
   have q0:=cJ h0
   let t1:List (St Tryz.prog):=(t0++[.d h0,.i v5 (a1.2.2.length),.L lQ a1.2.2 v5 0 1,.p (hG (c:=eW) (fun _=>rfl) (a1.2.2.getD (tN v5) dF)),.i v6 ((a1.2.2.getD (tN v5) dF).length),.L dM (a1.2.2.getD (tN v5) dF) v6 0 2,.c [] (C44 ((a1.2.2.getD (tN v5) dF).getD (tN v6) dF))])
   cases h1:(!(xJ ((a1.2.2.getD (tN v5) dF).getD (tN v6) dF))) with
   | true =>
    have e:=Eq.refl (gM a0 a1 (v5,v6));conv at e=>rhs;simp only [gM,h0,h1,aT]
    rw [aJ,e]
    exact rt (t1++[.d h1]) [] [] hcx (by kernel_rfl)
   | false =>
    have e:=Eq.refl (gM a0 a1 (v5,v6));conv at e=>rhs;simp only [gM,h0,h1,aT]
    rw [aI e]
    refine ba (t1++[.d h1]) [] [3,8,9] [5] hcx (m:=n) aF9 (aGa n0) (aCm a0 a1 v5 (W (v6+1))) (by kernel_rfl) ?_
    have z0:(W (v6+1))=(v6+1):=aS (by omega) (by omega)
    rw [z0]
    exact ih v5 (v6+1) (by(repeat' apply And.intro)<;>first | omega | assumption | exact pS | exact pT | exact rJ hck | exact lE hck hi.2.2.1 (by assumption) (by assumption)) (by omega)
  | false =>
   have q0:=cN h0
   have e:=Eq.refl (gM a0 a1 (v5,v6));conv at e=>rhs;simp only [gM,h0,aT]
   rw [aJ,e]
   refine ba (t0++[.d h0]) [] [3,8] [5] hcx (m:=n0) wM (wO) (sJ a0 a1 (W (v5+1))) (by kernel_rfl) ?_
   have z0:(W (v5+1))=(v5+1):=aS (by omega) (by omega)
   rw [z0]
   exact g0 (v5+1) (by(repeat' apply And.intro)<;>first | omega | assumption | exact pS | exact pT | exact rJ hck | exact lE hck hi.2.2.1 (by assumption) (by assumption)) (by omega)
theorem aMg (a0:bO)(a1:(List Int×bF)×(List (Int×Int×Bool))×List (List (Int×Int)))(l0:a0.length<=2^63-1)(l1_1_1:a1.1.1.length<=2^63-1)(l1_1_2:a1.1.2.length<=2^63-1)(l1_2_1:a1.2.1.length<=2^63-1)(l1_2_2:a1.2.2.length<=2^63-1)(hsl:∀j:Nat,(a1.2.2.getD j dF).length<=10000) {cx:Cx} (hcx:cx.base=5):∀(n:Nat) (v4:Int),(0<=v4)/\(ACQ a0 a1)/\(v4<=(a1.2.2.length:Int))->tN ((a1.2.2.length:Int) - v4) < n->Aw.Good Tryz.prog none 9 (bodyPost Tryz.prog Tryz.f24 (RR cx (iv (aH (gN a0 a1) n v4)) [] [])) cx [] (.l wM n::wO) (sJ a0 a1 v4):=by
 intro n
 induction n with
 | zero=>intro v4 hi hn;exact absurd hn (eI _)
 | succ n ih =>
  intro v4 hi hn
  refine aR ?_
  have haq:=hi.2.1
  have had:=haq.dims
  have hal:=haq.len
  have hsb:=hsl (tN v4)
  cases h0:(decide ((v4:Int) < (a1.2.2.length:Int))) with
  | true =>
   have q0:=cJ h0
   try have hb:=haq.bf (j:=v4) hi.1 (by have _:=cJ h0;omega)
   try have hb1:=(fun _=>hb.1) h0
   try have hb2:=(fun _=>hb.2.1) h0
   try have hb3:=(fun _=>hb.2.2.1) h0
   try have hb4:=(fun _=>hb.2.2.2) h0
   let t1:List (St Tryz.prog):=[.d h0,.i v4 (a1.2.2.length),.L lQ a1.2.2 v4 0 1,.p (hG (c:=eW) (fun _=>rfl) (a1.2.2.getD (tN v4) dF)),.i v4 (a1.2.1.length),.L eF a1.2.1 v4 0 3,.c [1,2] (C43 (a1.1.1,a1.1.2) (a1.2.1.getD (tN v4) dF) (by omega) (by omega) ⟨hb1,hb2⟩)]
   cases h1:(((((a1.2.2.getD (tN v4) dF).length:Nat):Int):Int) != (F43 (a1.1.1,a1.1.2) (a1.2.1.getD (tN v4) dF))) with
   | true =>
    have q1:=bne_iff_ne.1 h1
    try have hb:=haq.bf (j:=v4) hi.1 (by have _:=cJ h0;omega)
    try have hb1:=(fun _=>hb.1) h0
    try have hb2:=(fun _=>hb.2.1) h0
    try have hb3:=(fun _=>hb.2.2.1) h0
    try have hb4:=(fun _=>hb.2.2.2) h0
    have e:=Eq.refl (gN a0 a1 v4);conv at e=>rhs;simp only [gN,h0,h1,aT]
    rw [aJ,e]
    exact rt (t1++[.d h1]) [] [] hcx (by kernel_rfl)
   | false =>
    have q1:=bne_eq_false_iff_eq.1 h1
    try have hb:=haq.bf (j:=v4) hi.1 (by have _:=cJ h0;omega)
    try have hb1:=(fun _=>hb.1) h0
    try have hb2:=(fun _=>hb.2.1) h0
    try have hb3:=(fun _=>hb.2.2.1) h0
    try have hb4:=(fun _=>hb.2.2.2) h0
    have e:=Eq.refl (gN a0 a1 v4);conv at e=>rhs;simp only [gN,h0,h1,aT]
    rw [aJ,e]
    refine en (t1++[.d h1]) [] [3,8,9] [5] hcx aF9 (aGa n) (aCm a0 a1 v4 0) (tN ((((a1.2.2.getD (tN v4) dF).length:Nat):Int) - 0)+1) (by kernel_rfl) ?_
    exact aSp a0 a1 l0 l1_1_1 l1_1_2 l1_2_1 l1_2_2 hsl hcx n ih (tN ((((a1.2.2.getD (tN v4) dF).length:Nat):Int) - 0)+1) v4 0 (by(repeat' apply And.intro)<;>first | omega | assumption | exact pS | exact pT | exact rJ hck | exact lE hck hi.2.2.1 (by assumption) (by assumption)) (by omega)
  | false =>
   have q0:=cN h0
   have e:=Eq.refl (gN a0 a1 v4);conv at e=>rhs;simp only [gN,h0,aT]
   rw [aJ,e]
   exact rt [.d h0] [] [] hcx (by kernel_rfl)
theorem aSq (a0:bO)(a1:(List Int×bF)×(List (Int×Int×Bool))×List (List (Int×Int)))(l0:a0.length<=2^63-1)(l1_1_1:a1.1.1.length<=2^63-1)(l1_1_2:a1.1.2.length<=2^63-1)(l1_2_1:a1.2.1.length<=2^63-1)(l1_2_2:a1.2.2.length<=2^63-1)(hsl:∀j:Nat,(a1.2.2.getD j dF).length<=10000) {cx:Cx} (hcx:cx.base=5):∀(n:Nat) (v1:Bool) (v2:Int),(0<=v2)/\(gR a0 (a1.1.1,a1.1.2)=0)/\(FND a1 v1)/\(1<=v2)->tN (16 - v2+1) < n->Aw.Good Tryz.prog none 9 (bodyPost Tryz.prog Tryz.f24 (RR cx (iv (aH (gA a0 a1) n (v1,v2))) [] [])) cx [] (.l aGb n::aGc) (aCn a0 a1 v1 v2):=by
 intro n
 induction n with
 | zero=>intro v1 v2 hi hn;exact absurd hn (eI _)
 | succ n ih =>
  intro v1 v2 hi hn
  refine aR ?_
  have hck:=hi.2.1
  have hbl:=(aAc v2 hck).2.2
  cases h0:(decide ((v2:Int)<=16)) with
  | true =>
   have q0:=cJ h0
   let t1:List (St Tryz.prog):=[.d h0]
   cases h1:(!v1) with
   | true =>
    have e:=Eq.refl (gA a0 a1 (v1,v2));conv at e=>rhs;simp only [gA,h0,h1,aT]
    rw [aI e]
    refine ba (t1++[.d h1,.c [1,2] (C42 (a1.1.1,a1.1.2) v2 (by omega) (by omega) (fun q=>aL0 hck q)),.c [3,6] (aR4 a1.2.1 (F42 (a1.1.1,a1.1.2) v2) (by omega) (by omega))]) [] [3,6,7] [5] hcx (m:=n) aGb (aGc) (aCn a0 a1 (jR a1.2.1 (F42 (a1.1.1,a1.1.2) v2)) (W (v2+1))) (by kernel_rfl) ?_
    have z0:(W (v2+1))=(v2+1):=aS (by omega) (by omega)
    rw [z0]
    exact ih (jR a1.2.1 (F42 (a1.1.1,a1.1.2) v2)) (v2+1) (by(repeat' apply And.intro)<;>first | omega | assumption | exact pS | exact pT | exact rJ hck | exact lE hck hi.2.2.1 (by assumption) (by assumption)) (by omega)
   | false =>
    let t2:List (St Tryz.prog):=(t1++[.d h1,.d h1])
    cases h2:(((a1.2.2.length:Int):Int) != (a1.2.1.length:Int)) with
    | true =>
     have q2:=bne_iff_ne.1 h2
     have e:=Eq.refl (gA a0 a1 (v1,v2));conv at e=>rhs;simp only [gA,h0,h1,h2,aT]
     rw [aJ,e]
     exact rt (t2++[.d h2]) [] [] hcx (by kernel_rfl)
    | false =>
     have q2:=bne_eq_false_iff_eq.1 h2
     have e:=Eq.refl (gA a0 a1 (v1,v2));conv at e=>rhs;simp only [gA,h0,h1,h2,aT]
     rw [aJ,e]
     refine en (t2++[.d h2]) [] [3,8] [5] hcx wM (wO) (sJ a0 a1 0) (tN ((a1.2.2.length:Int) - 0)+1) (by kernel_rfl) ?_
     exact aMg a0 a1 l0 l1_1_1 l1_1_2 l1_2_1 l1_2_2 hsl hcx (tN ((a1.2.2.length:Int) - 0)+1) 0 (by(repeat' apply And.intro)<;>first | omega | assumption | exact pS | exact pT | exact rJ hck | exact lE hck hi.2.2.1 (by assumption) (by assumption)) (by omega)
  | false =>
   have q0:=cN h0
   let t1:List (St Tryz.prog):=[.d h0]
   cases h1:(!v1) with
   | true =>
    have e:=Eq.refl (gA a0 a1 (v1,v2));conv at e=>rhs;simp only [gA,h0,h1,aT]
    rw [aJ,e]
    exact rt (t1++[.d h1]) [] [] hcx (by kernel_rfl)
   | false =>
    let t2:List (St Tryz.prog):=(t1++[.d h1])
    cases h2:(((a1.2.2.length:Int):Int) != (a1.2.1.length:Int)) with
    | true =>
     have q2:=bne_iff_ne.1 h2
     have e:=Eq.refl (gA a0 a1 (v1,v2));conv at e=>rhs;simp only [gA,h0,h1,h2,aT]
     rw [aJ,e]
     exact rt (t2++[.d h2]) [] [] hcx (by kernel_rfl)
    | false =>
     have q2:=bne_eq_false_iff_eq.1 h2
     have e:=Eq.refl (gA a0 a1 (v1,v2));conv at e=>rhs;simp only [gA,h0,h1,h2,aT]
     rw [aJ,e]
     refine en (t2++[.d h2]) [] [3,8] [5] hcx wM (wO) (sJ a0 a1 0) (tN ((a1.2.2.length:Int) - 0)+1) (by kernel_rfl) ?_
     exact aMg a0 a1 l0 l1_1_1 l1_1_2 l1_2_1 l1_2_2 hsl hcx (tN ((a1.2.2.length:Int) - 0)+1) 0 (by(repeat' apply And.intro)<;>first | omega | assumption | exact pS | exact pT | exact rJ hck | exact lE hck hi.2.2.1 (by assumption) (by assumption)) (by omega)
def kR (a0:bO)(a1:(List Int×bF)×(List (Int×Int×Bool))×List (List (Int×Int))):Int :=
 (bif (((gR a0 (a1.1.1,a1.1.2)):Int) != 0) then
  (gR a0 (a1.1.1,a1.1.2))
 else
  (aH (gA a0 a1) (tN (16 - 1+1)+1) (false,1)))
theorem aWz (a0:bO)(a1:(List Int×bF)×(List (Int×Int×Bool))×List (List (Int×Int)))(l0:a0.length<=2^63-1)(l1_1_1:a1.1.1.length<=2^63-1)(l1_1_2:a1.1.2.length<=2^63-1)(l1_2_1:a1.2.1.length<=2^63-1)(l1_2_2:a1.2.2.length<=2^63-1)(hsl:∀j:Nat,(a1.2.2.getD j dF).length<=10000):Con Tryz.prog 24 [(.s 0 0 a0.length 10),(.a [(.s 1 0 a1.1.1.length 1),(.s 2 0 a1.1.2.length 8),(.s 3 0 a1.2.1.length 3),(.s 4 0 a1.2.2.length 1)])] [(.live false true (flat dC a0)),(.live false true (flat c3 a1.1.1)),(.live false true (flat cB a1.1.2)),(.live false true (flat fC a1.2.1)),(.live false true (flat jM a1.2.2))] (iv (kR a0 a1)) []:=by
 refine aY Tryz.func24 (by kernel_rfl) fun cx hcx=>?_
 let t0:List (St Tryz.prog):=[.c [0,1,2] (aWm a0 (a1.1.1,a1.1.2) (by omega) (by omega) (by omega))]
 cases h0:(((gR a0 (a1.1.1,a1.1.2)):Int) != 0) with
 | true =>
  have q0:=bne_iff_ne.1 h0
  have e:=Eq.refl (kR a0 a1);conv at e=>rhs;simp only [kR,h0,aT]
  rw [e]
  exact rt (t0++[.d h0]) [] [] hcx (by kernel_rfl)
 | false =>
  have q0:=bne_eq_false_iff_eq.1 h0
  try have hck:gR a0 (a1.1.1,a1.1.2)=0:=bne_eq_false_iff_eq.1 h0
  have e:=Eq.refl (kR a0 a1);conv at e=>rhs;simp only [kR,h0,aT]
  rw [e]
  refine en (t0++[.d h0]) [] [3,6,7] [5] hcx aGb (aGc) (aCn a0 a1 false 1) (tN (16 - 1+1)+1) (by kernel_rfl) ?_
  exact aSq a0 a1 l0 l1_1_1 l1_1_2 l1_2_1 l1_2_2 hsl hcx (tN (16 - 1+1)+1) false 1 (by(repeat' apply And.intro)<;>first | omega | assumption | exact pS | exact pT | exact rJ hck | exact lE hck hi.2.2.1 (by assumption) (by assumption)) (by omega)
noncomputable def yI:Code:=(aM [1,1,0,1,0,1,1,0,1,1,0,1] [0] (aL Tryz.f22) []).1
noncomputable def yJ (m0:Nat):List K:=(aM [1,1,0,1,0,1,1,0,1,1,0,1] [m0] (aL Tryz.f22) []).2
def vB (a0:bO)(a1:List (List (Int×Int)))(v10c:List SV)(v10n:Nat)(v11c:List SV)(v11n:Nat)(v12 v13 v14:Int):LS:=⟨gD 62 [(0,(.s 0 0 a0.length 10)),(1,(.s 1 0 a1.length 1)),(6,(.s 2 0 v10n 2)),(7,(iv v12)),(8,(.s 3 0 v11n 2)),(16,(iv (a0.length:Int))),(17,(iv v13)),(20,(.s 0 0 a0.length 10)),(21,(iv (a0.length:Int))),(22,(iv v14))],[(.live false true (flat dC a0)),(.live false true (flat jM a1)),(.live true true v10c),(.live true true v11c)]⟩
def fE (a0:bO)(a1:List (List (Int×Int))):(List (Int×Int))×(List (Int×Int))×Zt->((List (Int×Int))×(List (Int×Int))×Zt)⊕(((List (Int×Int))×Int)⊕((List (Int×Int))×Int))
 | (v10,v11,v12,v13,v14) =>
  (bif (decide ((v14:Int) < (a0.length:Int))) then
   (bif (((wX ((a1.getD (tN v14) dF).getD (tN v12) dF) (a0.getD (tN v14) dF).2).2:Int) != 0) then
    (.inr (.inr (([]:List (Int×Int)),(wX ((a1.getD (tN v14) dF).getD (tN v12) dF) (a0.getD (tN v14) dF).2).2)))
   else
    (.inl (v10,(v11++[(wX ((a1.getD (tN v14) dF).getD (tN v12) dF) (a0.getD (tN v14) dF).2).1]),v12,v13,(v14+1))))
  else
   (bif (((jG v11).2:Int) != 0) then
    (.inr (.inr (([]:List (Int×Int)),(jG v11).2)))
   else
    (.inr (.inl ((v10++[(jG v11).1]),(v13+1))))))
noncomputable def sV:Code:=(aM [1,1,0,1] [] (aL Tryz.f22) []).1
noncomputable def sW:List K:=(aM [1,1,0,1] [] (aL Tryz.f22) []).2
def rB (a0:bO)(a1:List (List (Int×Int)))(v8c:List SV)(v8n:Nat)(v9:Int):LS:=⟨gD 62 [(0,(.s 0 0 a0.length 10)),(1,(.s 1 0 a1.length 1)),(6,(.s 2 0 v8n 2)),(16,(iv (a0.length:Int))),(17,(iv v9))],[(.live false true (flat dC a0)),(.live false true (flat jM a1)),(.live true true v8c)]⟩
def eV (a0:bO)(a1:List (List (Int×Int))):(List (Int×Int))×Int->((List (Int×Int))×Int)⊕((List (Int×Int))×Int)
 | (v8,v9) =>
  (bif (decide ((v9:Int) < (a0.length:Int))) then
   (aH (fE a0 a1) (tN ((a0.length:Int) - 0)+1) (v8,([]:List (Int×Int)),v9,v9,0))
  else
   (.inr (v8,0)))
theorem aNh (a0:bO)(a1:List (List (Int×Int)))(l0:a0.length<=2^63-1)(l1:a1.length<=2^63-1)(hm:a0.length<=96/\a1.length=a0.length/\∀j:Nat,j < a0.length->(a1.getD j dF).length=a0.length) {cx:Cx} (hcx:cx.base=2)
 (n0:Nat) (g0:∀(v8:List (Int×Int)) (v9:Int),(0<=v9)/\(v8.length=tN v9)/\(v9<=(a0.length:Int))->tN ((a0.length:Int) - v9) < n0->Aw.Good Tryz.prog none 9 (bodyPost Tryz.prog Tryz.f22 (RR cx (.t [(.s 2 0 (aH (eV a0 a1) n0 (v8,v9)).1.length 2),(iv (aH (eV a0 a1) n0 (v8,v9)).2)]) [(.live true true (flat eW (aH (eV a0 a1) n0 (v8,v9)).1))] [])) cx [] (.l sV n0::sW) (rB a0 a1 (flat eW v8) v8.length v9)):∀(n:Nat) (v10:List (Int×Int)) (v11:List (Int×Int)) (v12 v13 v14:Int),(0<=v14)/\(v12=v13)/\(v11.length=tN v14)/\(v14<=(a0.length:Int))/\((0<=v13))/\((v10.length=tN v13))/\((v13<=(a0.length:Int)))/\(v13 < (a0.length:Int))/\(tN ((a0.length:Int) - v13) < n0+1)->tN ((a0.length:Int) - v14) < n->Aw.Good Tryz.prog none 9 (bodyPost Tryz.prog Tryz.f22 (RR cx (.t [(.s 2 0 (bA (eV a0 a1) n0 (aH (fE a0 a1) n (v10,v11,v12,v13,v14))).1.length 2),(iv (bA (eV a0 a1) n0 (aH (fE a0 a1) n (v10,v11,v12,v13,v14))).2)]) [(.live true true (flat eW (bA (eV a0 a1) n0 (aH (fE a0 a1) n (v10,v11,v12,v13,v14))).1))] [])) cx [] (.l yI n::yJ n0) (vB a0 a1 (flat eW v10) v10.length (flat eW v11) v11.length v12 v13 v14):=by
 intro n
 induction n with
 | zero=>intro v10 v11 v12 v13 v14 hi hn;exact absurd hn (eI _)
 | succ n ih =>
  intro v10 v11 v12 v13 v14 hi hn
  refine aR ?_
  have hm1:=hm.2.1
  cases h0:(decide ((v14:Int) < (a0.length:Int))) with
  | true =>
   have q0:=cJ h0
   try have hmr:=hm.2.2 (tN v14) (by have _:=cJ h0;omega)
   let t1:List (St Tryz.prog):=[.d h0,.i v14 (a0.length),.L eC a0 v14 0 10,.i v14 (a1.length),.L lQ a1 v14 0 1,.p (hG (c:=eW) (fun _=>rfl) (a1.getD (tN v14) dF)),.i v12 ((a1.getD (tN v14) dF).length),.L dM (a1.getD (tN v14) dF) v12 0 2,.c [] (C38 ((a1.getD (tN v14) dF).getD (tN v12) dF) (a0.getD (tN v14) dF).2)]
   cases h1:(((wX ((a1.getD (tN v14) dF).getD (tN v12) dF) (a0.getD (tN v14) dF).2).2:Int) != 0) with
   | true =>
    have q1:=bne_iff_ne.1 h1
    try have hmr:=hm.2.2 (tN v14) (by have _:=cJ h0;omega)
    have e:=Eq.refl (fE a0 a1 (v10,v11,v12,v13,v14));conv at e=>rhs;simp only [fE,h0,h1,aT]
    rw [aJ,e]
    exact rt (t1++[.d h1]) [.slot 4 2] [7] hcx (by kernel_rfl)
   | false =>
    have q1:=bne_eq_false_iff_eq.1 h1
    try have hmr:=hm.2.2 (tN v14) (by have _:=cJ h0;omega)
    have e:=Eq.refl (fE a0 a1 (v10,v11,v12,v13,v14));conv at e=>rhs;simp only [fE,h0,h1,aT]
    rw [aI e]
    refine ba (t1++[.d h1,.p (show((flat eW v11).length=v11.length*2/\v11.length+1<=2 ^ 40/\(v11.length+1)*16<=2 ^ 47) from kG dM (by omega) (by omega))]) [] [0,1,6,7,8,16,17,20,21,22] [2,8] hcx (m:=n) yI (yJ n0) (vB a0 a1 (flat eW v10) (v10.length) (flat eW v11++(k2 (wX ((a1.getD (tN v14) dF).getD (tN v12) dF) (a0.getD (tN v14) dF).2).1)) (v11.length+1) v12 v13 (W (v14+1))) (by kernel_rfl) ?_
    have z0:(W (v14+1))=(v14+1):=aS (by omega) (by omega)
    have z1:(flat eW v11++(k2 (wX ((a1.getD (tN v14) dF).getD (tN v12) dF) (a0.getD (tN v14) dF).2).1))=(flat eW (v11++[(wX ((a1.getD (tN v14) dF).getD (tN v12) dF) (a0.getD (tN v14) dF).2).1])):=(cM (c:=eW) (l:=v11) (m:=[(wX ((a1.getD (tN v14) dF).getD (tN v12) dF) (a0.getD (tN v14) dF).2).1])).symm
    have z2:(v11.length+1)=(v11++[(wX ((a1.getD (tN v14) dF).getD (tN v12) dF) (a0.getD (tN v14) dF).2).1]).length:=mI v11 [(wX ((a1.getD (tN v14) dF).getD (tN v12) dF) (a0.getD (tN v14) dF).2).1] rfl
    rw [z0,z1,z2]
    exact ih v10 (v11++[(wX ((a1.getD (tN v14) dF).getD (tN v12) dF) (a0.getD (tN v14) dF).2).1]) v12 v13 (v14+1) (by refine⟨?_,?_,?_,?_,?_,?_,?_,?_,?_⟩<;>(try simp only [Ls])<;>first | omega | assumption | exact hi.2.1 | exact hi.2.2.1 | exact hi.2.2.2.1 | exact hi.2.2.2.2.1 | exact hi.2.2.2.2.2.1 | exact hi.2.2.2.2.2.2.1 | exact hi.2.2.2.2.2.2.2.1 | exact hi.2.2.2.2.2.2.2.2.1 | simp) (by omega)
  | false =>
   have q0:=cN h0
   let t1:List (St Tryz.prog):=[.d h0,.c [3] (aVb v11 (by omega))]
   cases h1:(((jG v11).2:Int) != 0) with
   | true =>
    have q1:=bne_iff_ne.1 h1
    have e:=Eq.refl (fE a0 a1 (v10,v11,v12,v13,v14));conv at e=>rhs;simp only [fE,h0,h1,aT]
    rw [aJ,e]
    exact rt (t1++[.d h1]) [.slot 4 2] [5] hcx (by kernel_rfl)
   | false =>
    have q1:=bne_eq_false_iff_eq.1 h1
    have e:=Eq.refl (fE a0 a1 (v10,v11,v12,v13,v14));conv at e=>rhs;simp only [fE,h0,h1,aT]
    rw [aJ,e]
    refine ba (t1++[.d h1,.p (show((flat eW v10).length=v10.length*2/\v10.length+1<=2 ^ 40/\(v10.length+1)*16<=2 ^ 47) from kG dM (by omega) (by omega))]) [] [0,1,6,16,17] [6] hcx (m:=n0) sV (sW) (rB a0 a1 (flat eW v10++(k2 (jG v11).1)) (v10.length+1) (W (v13+1))) (by kernel_rfl) ?_
    have z0:(W (v13+1))=(v13+1):=aS (by omega) (by omega)
    have z1:(flat eW v10++(k2 (jG v11).1))=(flat eW (v10++[(jG v11).1])):=(cM (c:=eW) (l:=v10) (m:=[(jG v11).1])).symm
    have z2:(v10.length+1)=(v10++[(jG v11).1]).length:=mI v10 [(jG v11).1] rfl
    rw [z0,z1,z2]
    exact g0 (v10++[(jG v11).1]) (v13+1) (by refine⟨?_,?_,?_⟩<;>(try simp only [Ls])<;>first | omega | assumption | simp) (by omega)
theorem aNi (a0:bO)(a1:List (List (Int×Int)))(l0:a0.length<=2^63-1)(l1:a1.length<=2^63-1)(hm:a0.length<=96/\a1.length=a0.length/\∀j:Nat,j < a0.length->(a1.getD j dF).length=a0.length) {cx:Cx} (hcx:cx.base=2):∀(n:Nat) (v8:List (Int×Int)) (v9:Int),(0<=v9)/\(v8.length=tN v9)/\(v9<=(a0.length:Int))->tN ((a0.length:Int) - v9) < n->Aw.Good Tryz.prog none 9 (bodyPost Tryz.prog Tryz.f22 (RR cx (.t [(.s 2 0 (aH (eV a0 a1) n (v8,v9)).1.length 2),(iv (aH (eV a0 a1) n (v8,v9)).2)]) [(.live true true (flat eW (aH (eV a0 a1) n (v8,v9)).1))] [])) cx [] (.l sV n::sW) (rB a0 a1 (flat eW v8) v8.length v9):=by
 intro n
 induction n with
 | zero=>intro v8 v9 hi hn;exact absurd hn (eI _)
 | succ n ih =>
  intro v8 v9 hi hn
  refine aR ?_
  cases h0:(decide ((v9:Int) < (a0.length:Int))) with
  | true =>
   have q0:=cJ h0
   have e:=Eq.refl (eV a0 a1 (v8,v9));conv at e=>rhs;simp only [eV,h0,aT]
   rw [aJ,e]
   refine en [.d h0] [.slot 8 2] [0,1,6,7,8,16,17,20,21,22] [2,3] hcx yI (yJ n) (vB a0 a1 (flat eW v8) (v8.length) (flat eW ([]:List (Int×Int))) 0 v9 v9 0) (tN ((a0.length:Int) - 0)+1) (by kernel_rfl) ?_
   exact aNh a0 a1 l0 l1 hm hcx n ih (tN ((a0.length:Int) - 0)+1) v8 ([]:List (Int×Int)) v9 v9 0 (by refine⟨?_,?_,?_,?_,?_,?_,?_,?_,?_⟩<;>(try simp only [Ls])<;>first | omega | assumption | exact hi.2.1 | exact hi.2.2.1 | exact hi.2.2.2.1 | exact hi.2.2.2.2.1 | exact hi.2.2.2.2.2.1 | exact hi.2.2.2.2.2.2.1 | exact hi.2.2.2.2.2.2.2.1 | exact hi.2.2.2.2.2.2.2.2.1 | simp) (by omega)
  | false =>
   have q0:=cN h0
   have e:=Eq.refl (eV a0 a1 (v8,v9));conv at e=>rhs;simp only [eV,h0,aT]
   rw [aJ,e]
   exact rt [.d h0] [] [2] hcx (by kernel_rfl)
def mX (a0:bO)(a1:List (List (Int×Int))):(List (Int×Int))×Int :=
 (aH (eV a0 a1) (tN ((a0.length:Int) - 0)+1) (([]:List (Int×Int)),0))
theorem aSr (a0:bO)(a1:List (List (Int×Int)))(l0:a0.length<=2^63-1)(l1:a1.length<=2^63-1)(hm:a0.length<=96/\a1.length=a0.length/\∀j:Nat,j < a0.length->(a1.getD j dF).length=a0.length):Con Tryz.prog 22 [(.s 0 0 a0.length 10),(.s 1 0 a1.length 1)] [(.live false true (flat dC a0)),(.live false true (flat jM a1))] (.t [(.s 2 0 (mX a0 a1).1.length 2),(iv (mX a0 a1).2)]) [(.live true true (flat eW (mX a0 a1).1))]:=by
 refine aY Tryz.func22 (by kernel_rfl) fun cx hcx=>?_
 have e:=Eq.refl (mX a0 a1);conv at e=>rhs;simp only [mX]
 rw [e]
 refine en [] [.slot 6 2] [0,1,6,16,17] [2] hcx sV (sW) (rB a0 a1 (flat eW ([]:List (Int×Int))) 0 0) (tN ((a0.length:Int) - 0)+1) (by kernel_rfl) ?_
 exact aNi a0 a1 l0 l1 hm hcx (tN ((a0.length:Int) - 0)+1) ([]:List (Int×Int)) 0 (by refine⟨?_,?_,?_⟩<;>(try simp only [Ls])<;>first | omega | assumption | simp) (by omega)
noncomputable def yK:Code:=(aM [1,1,0,1,0,1,0,1,0,1] [0] (aL Tryz.f25) []).1
noncomputable def yL (m0:Nat):List K:=(aM [1,1,0,1,0,1,0,1,0,1] [m0] (aL Tryz.f25) []).2
def vC (a0:bO)(a1:List (List (Int×Int)))(v10c:List SV)(v10n:Nat)(v11c:List SV)(v11n:Nat)(v12 v13:Int):LS:=⟨gD 62 [(0,(.s 0 0 a0.length 10)),(1,(.s 1 0 a1.length 1)),(6,(.s 2 0 v10n 2)),(7,(iv v12)),(8,(.s 3 0 v11n 2)),(9,(iv v13))],[(.live false true (flat dC a0)),(.live false true (flat jM a1)),(.live true true v10c),(.live true true v11c)]⟩
def dU (a0:bO)(a1:List (List (Int×Int))):(List (Int×Int))×(List (Int×Int))×Int×Int->((List (Int×Int))×(List (Int×Int))×Int×Int)⊕(((List (Int×Int))×Int)⊕((List (Int×Int))×Int))
 | (v10,v11,v12,v13) =>
  (bif (decide ((v13:Int) < (a0.length:Int))) then
   (bif (((zR ((a1.getD (tN v13) dF).getD (tN v12) dF) (a0.getD (tN v13) dF).2).2:Int) != 0) then
    (.inr (.inr (([]:List (Int×Int)),(zR ((a1.getD (tN v13) dF).getD (tN v12) dF) (a0.getD (tN v13) dF).2).2)))
   else
    (.inl (v10,(v11++[(zR ((a1.getD (tN v13) dF).getD (tN v12) dF) (a0.getD (tN v13) dF).2).1]),v12,(v13+1))))
  else
   (bif (((jH v11).2:Int) != 0) then
    (.inr (.inr (([]:List (Int×Int)),(jH v11).2)))
   else
    (.inr (.inl ((v10++[(jH v11).1]),(v12+1))))))
noncomputable def sX:Code:=(aM [1,1,0,1] [] (aL Tryz.f25) []).1
noncomputable def sY:List K:=(aM [1,1,0,1] [] (aL Tryz.f25) []).2
def rC (a0:bO)(a1:List (List (Int×Int)))(v8c:List SV)(v8n:Nat)(v9:Int):LS:=⟨gD 62 [(0,(.s 0 0 a0.length 10)),(1,(.s 1 0 a1.length 1)),(6,(.s 2 0 v8n 2)),(7,(iv v9))],[(.live false true (flat dC a0)),(.live false true (flat jM a1)),(.live true true v8c)]⟩
def dV (a0:bO)(a1:List (List (Int×Int))):(List (Int×Int))×Int->((List (Int×Int))×Int)⊕((List (Int×Int))×Int)
 | (v8,v9) =>
  (bif (decide ((v9:Int) < (a0.length:Int))) then
   (aH (dU a0 a1) (tN ((a0.length:Int) - 0)+1) (v8,([]:List (Int×Int)),v9,0))
  else
   (.inr (v8,0)))
theorem aNj (a0:bO)(a1:List (List (Int×Int)))(l0:a0.length<=2^63-1)(l1:a1.length<=2^63-1)(hm:a0.length<=96/\a1.length=a0.length/\∀j:Nat,j < a0.length->(a1.getD j dF).length=a0.length) {cx:Cx} (hcx:cx.base=2)
 (n0:Nat) (g0:∀(v8:List (Int×Int)) (v9:Int),(0<=v9)/\(v8.length=tN v9)/\(v9<=(a0.length:Int))->tN ((a0.length:Int) - v9) < n0->Aw.Good Tryz.prog none 9 (bodyPost Tryz.prog Tryz.f25 (RR cx (.t [(.s 2 0 (aH (dV a0 a1) n0 (v8,v9)).1.length 2),(iv (aH (dV a0 a1) n0 (v8,v9)).2)]) [(.live true true (flat eW (aH (dV a0 a1) n0 (v8,v9)).1))] [])) cx [] (.l sX n0::sY) (rC a0 a1 (flat eW v8) v8.length v9)):∀(n:Nat) (v10:List (Int×Int)) (v11:List (Int×Int)) (v12 v13:Int),(0<=v13)/\(v11.length=tN v13)/\(v13<=(a0.length:Int))/\((0<=v12))/\((v10.length=tN v12))/\((v12<=(a0.length:Int)))/\(v12 < (a0.length:Int))/\(tN ((a0.length:Int) - v12) < n0+1)->tN ((a0.length:Int) - v13) < n->Aw.Good Tryz.prog none 9 (bodyPost Tryz.prog Tryz.f25 (RR cx (.t [(.s 2 0 (bA (dV a0 a1) n0 (aH (dU a0 a1) n (v10,v11,v12,v13))).1.length 2),(iv (bA (dV a0 a1) n0 (aH (dU a0 a1) n (v10,v11,v12,v13))).2)]) [(.live true true (flat eW (bA (dV a0 a1) n0 (aH (dU a0 a1) n (v10,v11,v12,v13))).1))] [])) cx [] (.l yK n::yL n0) (vC a0 a1 (flat eW v10) v10.length (flat eW v11) v11.length v12 v13):=by
 intro n
 induction n with
 | zero=>intro v10 v11 v12 v13 hi hn;exact absurd hn (eI _)
 | succ n ih =>
  intro v10 v11 v12 v13 hi hn
  refine aR ?_
  have hm1:=hm.2.1
  cases h0:(decide ((v13:Int) < (a0.length:Int))) with
  | true =>
   have q0:=cJ h0
   try have hmr:=hm.2.2 (tN v13) (by have _:=cJ h0;omega)
   let t1:List (St Tryz.prog):=[.d h0,.i v13 (a1.length),.L lQ a1 v13 0 1,.p (hG (c:=eW) (fun _=>rfl) (a1.getD (tN v13) dF)),.i v12 ((a1.getD (tN v13) dF).length),.L dM (a1.getD (tN v13) dF) v12 0 2,.i v13 (a0.length),.L eC a0 v13 9 1,.c [] (C45 ((a1.getD (tN v13) dF).getD (tN v12) dF) (a0.getD (tN v13) dF).2)]
   cases h1:(((zR ((a1.getD (tN v13) dF).getD (tN v12) dF) (a0.getD (tN v13) dF).2).2:Int) != 0) with
   | true =>
    have q1:=bne_iff_ne.1 h1
    try have hmr:=hm.2.2 (tN v13) (by have _:=cJ h0;omega)
    have e:=Eq.refl (dU a0 a1 (v10,v11,v12,v13));conv at e=>rhs;simp only [dU,h0,h1,aT]
    rw [aJ,e]
    exact rt (t1++[.d h1]) [.slot 4 2] [6] hcx (by kernel_rfl)
   | false =>
    have q1:=bne_eq_false_iff_eq.1 h1
    try have hmr:=hm.2.2 (tN v13) (by have _:=cJ h0;omega)
    have e:=Eq.refl (dU a0 a1 (v10,v11,v12,v13));conv at e=>rhs;simp only [dU,h0,h1,aT]
    rw [aI e]
    refine ba (t1++[.d h1,.p (show((flat eW v11).length=v11.length*2/\v11.length+1<=2 ^ 40/\(v11.length+1)*16<=2 ^ 47) from kG dM (by omega) (by omega))]) [] [0,1,6,7,8,9] [2,7] hcx (m:=n) yK (yL n0) (vC a0 a1 (flat eW v10) (v10.length) (flat eW v11++(k2 (zR ((a1.getD (tN v13) dF).getD (tN v12) dF) (a0.getD (tN v13) dF).2).1)) (v11.length+1) v12 (W (v13+1))) (by kernel_rfl) ?_
    have z0:(W (v13+1))=(v13+1):=aS (by omega) (by omega)
    have z1:(flat eW v11++(k2 (zR ((a1.getD (tN v13) dF).getD (tN v12) dF) (a0.getD (tN v13) dF).2).1))=(flat eW (v11++[(zR ((a1.getD (tN v13) dF).getD (tN v12) dF) (a0.getD (tN v13) dF).2).1])):=(cM (c:=eW) (l:=v11) (m:=[(zR ((a1.getD (tN v13) dF).getD (tN v12) dF) (a0.getD (tN v13) dF).2).1])).symm
    have z2:(v11.length+1)=(v11++[(zR ((a1.getD (tN v13) dF).getD (tN v12) dF) (a0.getD (tN v13) dF).2).1]).length:=mI v11 [(zR ((a1.getD (tN v13) dF).getD (tN v12) dF) (a0.getD (tN v13) dF).2).1] rfl
    rw [z0,z1,z2]
    exact ih v10 (v11++[(zR ((a1.getD (tN v13) dF).getD (tN v12) dF) (a0.getD (tN v13) dF).2).1]) v12 (v13+1) (by refine⟨?_,?_,?_,?_,?_,?_,?_,?_⟩<;>(try simp only [Ls])<;>first | omega | assumption | exact hi.2.1 | exact hi.2.2.1 | exact hi.2.2.2.1 | exact hi.2.2.2.2.1 | exact hi.2.2.2.2.2.1 | exact hi.2.2.2.2.2.2.1 | exact hi.2.2.2.2.2.2.2.1 | simp) (by omega)
  | false =>
   have q0:=cN h0
   let t1:List (St Tryz.prog):=[.d h0,.c [3] (aVf v11 (by omega))]
   cases h1:(((jH v11).2:Int) != 0) with
   | true =>
    have q1:=bne_iff_ne.1 h1
    have e:=Eq.refl (dU a0 a1 (v10,v11,v12,v13));conv at e=>rhs;simp only [dU,h0,h1,aT]
    rw [aJ,e]
    exact rt (t1++[.d h1]) [.slot 4 2] [5] hcx (by kernel_rfl)
   | false =>
    have q1:=bne_eq_false_iff_eq.1 h1
    have e:=Eq.refl (dU a0 a1 (v10,v11,v12,v13));conv at e=>rhs;simp only [dU,h0,h1,aT]
    rw [aJ,e]
    refine ba (t1++[.d h1,.p (show((flat eW v10).length=v10.length*2/\v10.length+1<=2 ^ 40/\(v10.length+1)*16<=2 ^ 47) from kG dM (by omega) (by omega))]) [] [0,1,6,7] [6] hcx (m:=n0) sX (sY) (rC a0 a1 (flat eW v10++(k2 (jH v11).1)) (v10.length+1) (W (v12+1))) (by kernel_rfl) ?_
    have z0:(W (v12+1))=(v12+1):=aS (by omega) (by omega)
    have z1:(flat eW v10++(k2 (jH v11).1))=(flat eW (v10++[(jH v11).1])):=(cM (c:=eW) (l:=v10) (m:=[(jH v11).1])).symm
    have z2:(v10.length+1)=(v10++[(jH v11).1]).length:=mI v10 [(jH v11).1] rfl
    rw [z0,z1,z2]
    exact g0 (v10++[(jH v11).1]) (v12+1) (by refine⟨?_,?_,?_⟩<;>(try simp only [Ls])<;>first | omega | assumption | simp) (by omega)
theorem aNk (a0:bO)(a1:List (List (Int×Int)))(l0:a0.length<=2^63-1)(l1:a1.length<=2^63-1)(hm:a0.length<=96/\a1.length=a0.length/\∀j:Nat,j < a0.length->(a1.getD j dF).length=a0.length) {cx:Cx} (hcx:cx.base=2):∀(n:Nat) (v8:List (Int×Int)) (v9:Int),(0<=v9)/\(v8.length=tN v9)/\(v9<=(a0.length:Int))->tN ((a0.length:Int) - v9) < n->Aw.Good Tryz.prog none 9 (bodyPost Tryz.prog Tryz.f25 (RR cx (.t [(.s 2 0 (aH (dV a0 a1) n (v8,v9)).1.length 2),(iv (aH (dV a0 a1) n (v8,v9)).2)]) [(.live true true (flat eW (aH (dV a0 a1) n (v8,v9)).1))] [])) cx [] (.l sX n::sY) (rC a0 a1 (flat eW v8) v8.length v9):=by
 intro n
 induction n with
 | zero=>intro v8 v9 hi hn;exact absurd hn (eI _)
 | succ n ih =>
  intro v8 v9 hi hn
  refine aR ?_
  cases h0:(decide ((v9:Int) < (a0.length:Int))) with
  | true =>
   have q0:=cJ h0
   have e:=Eq.refl (dV a0 a1 (v8,v9));conv at e=>rhs;simp only [dV,h0,aT]
   rw [aJ,e]
   refine en [.d h0] [.slot 8 2] [0,1,6,7,8,9] [2,3] hcx yK (yL n) (vC a0 a1 (flat eW v8) (v8.length) (flat eW ([]:List (Int×Int))) 0 v9 0) (tN ((a0.length:Int) - 0)+1) (by kernel_rfl) ?_
   exact aNj a0 a1 l0 l1 hm hcx n ih (tN ((a0.length:Int) - 0)+1) v8 ([]:List (Int×Int)) v9 0 (by refine⟨?_,?_,?_,?_,?_,?_,?_,?_⟩<;>(try simp only [Ls])<;>first | omega | assumption | exact hi.2.1 | exact hi.2.2.1 | exact hi.2.2.2.1 | exact hi.2.2.2.2.1 | exact hi.2.2.2.2.2.1 | exact hi.2.2.2.2.2.2.1 | exact hi.2.2.2.2.2.2.2.1 | simp) (by omega)
  | false =>
   have q0:=cN h0
   have e:=Eq.refl (dV a0 a1 (v8,v9));conv at e=>rhs;simp only [dV,h0,aT]
   rw [aJ,e]
   exact rt [.d h0] [] [2] hcx (by kernel_rfl)
def kS (a0:bO)(a1:List (List (Int×Int))):(List (Int×Int))×Int :=
 (aH (dV a0 a1) (tN ((a0.length:Int) - 0)+1) (([]:List (Int×Int)),0))
theorem aSs (a0:bO)(a1:List (List (Int×Int)))(l0:a0.length<=2^63-1)(l1:a1.length<=2^63-1)(hm:a0.length<=96/\a1.length=a0.length/\∀j:Nat,j < a0.length->(a1.getD j dF).length=a0.length):Con Tryz.prog 25 [(.s 0 0 a0.length 10),(.s 1 0 a1.length 1)] [(.live false true (flat dC a0)),(.live false true (flat jM a1))] (.t [(.s 2 0 (kS a0 a1).1.length 2),(iv (kS a0 a1).2)]) [(.live true true (flat eW (kS a0 a1).1))]:=by
 refine aY Tryz.func25 (by kernel_rfl) fun cx hcx=>?_
 have e:=Eq.refl (kS a0 a1);conv at e=>rhs;simp only [kS]
 rw [e]
 refine en [] [.slot 6 2] [0,1,6,7] [2] hcx sX (sY) (rC a0 a1 (flat eW ([]:List (Int×Int))) 0 0) (tN ((a0.length:Int) - 0)+1) (by kernel_rfl) ?_
 exact aNk a0 a1 l0 l1 hm hcx (tN ((a0.length:Int) - 0)+1) ([]:List (Int×Int)) 0 (by refine⟨?_,?_,?_⟩<;>(try simp only [Ls])<;>first | omega | assumption | simp) (by omega)
theorem aDq {T T' R:Type} [Inhabited R] {S:T->T⊕R} {S':T'->T'⊕R} (rel:T->T'->Prop)(h:∀x y,rel x y->(∃a b,S x=.inl a/\S' y=.inl b/\rel a b)\/(∃r,S x=.inr r/\S' y=.inr r)) :
 ∀(n:Nat) (x:T) (y:T'),rel x y->aH S n x=aH S' n y
 | 0,_,_,_=>rfl
 | n+1,x,y,hxy=>by
  rcases h x y hxy with⟨a,b,e1,e2,e3⟩ | ⟨r,e1,e2⟩
  ·rw [aI e1,aI e2];exact aDq rel h n a b e3
  ·rw [aQ e1,aQ e2]
theorem lF {T R:Type} [Inhabited R] {S:T->T⊕R} (μ:T->Nat)(Pr:T->Prop)(Qr:R->Prop)(h:∀x,Pr x->(∃a,S x=.inl a/\Pr a/\μ a < μ x)\/(∃r,S x=.inr r/\Qr r)) :
 ∀(n:Nat) (x:T),Pr x->μ x < n->Qr (aH S n x)
 | 0,_,_,hn=>absurd hn (eI _)
 | n+1,x,hx,hn=>by
  rcases h x hx with⟨a,e1,e2,e3⟩ | ⟨r,e1,e2⟩
  ·rw [aI e1];exact lF μ Pr Qr h n a e2 (by omega)
  ·rw [aQ e1];exact e2
theorem aH5 (l:gX)(o:uX)(v:Int):∀(d k n m:Nat),d=(o.2.2.getD (tN v) dF).length - k->k<=(o.2.2.getD (tN v) dF).length->d < n->d < m ->
 aH (gM l o) n (v,(k:Int))=bif decide (aH (eL (o.2.2.getD (tN v) dF)) m (k:Int)≥0) then .inr 1 else .inl (v+1)
 | 0,k,n,m,hd,hk,hn,hm=>by
  obtain⟨n,rfl⟩:∃q,n=q+1:=⟨n - 1,by omega⟩
  obtain⟨m,rfl⟩:∃q,m=q+1:=⟨m - 1,by omega⟩
  have e1:gM l o (v,(k:Int))=.inr (.inl (v+1)):=by
   simp only [gM]
   rw [dA (by omega),cond_false]
  have e2:eL (o.2.2.getD (tN v) dF) (k:Int)=.inr (-1):=by
   simp only [eL]
   rw [dA (by omega),cond_false]
  rw [aQ e1,aQ e2];rfl
 | d+1,k,n,m,hd,hk,hn,hm=>by
  obtain⟨n,rfl⟩:∃q,n=q+1:=⟨n - 1,by omega⟩
  obtain⟨m,rfl⟩:∃q,m=q+1:=⟨m - 1,by omega⟩
  have e1:gM l o (v,(k:Int))=bif (!(xJ ((o.2.2.getD (tN v) dF).getD k dF))) then .inr (.inr 1) else .inl (v,((k+1:Nat):Int)):=by
   simp only [gM,fZ]
   rw [cH (by omega),cond_true];rfl
  have e2:eL (o.2.2.getD (tN v) dF) (k:Int)=bif (!(xJ ((o.2.2.getD (tN v) dF).getD k dF))) then .inr (k:Int) else .inl ((k+1:Nat):Int):=by
   simp only [eL,fZ]
   rw [cH (by omega),cond_true];rfl
  cases hv:(!(xJ ((o.2.2.getD (tN v) dF).getD k dF))) with
  | true =>
   rw [hv,cond_true] at e1 e2
   rw [aQ e1,aQ e2,cH (by omega)];rfl
  | false =>
   rw [hv,cond_false] at e1 e2
   rw [aI e1,aI e2]
   exact aH5 l o v d (k+1) n m (by omega) (by omega) (by omega) (by omega)
theorem aUv (l:gX)(o:uX)(hl:o.2.2.length=o.2.1.length):jC l o=gN l o:=by
 funext v
 simp only [jC,gN]
 rw [hl]
 have e:=aH5 l o v _ 0 (tN ((((o.2.2.getD (tN v) dF).length:Nat):Int) - 0)+1) (tN ((((o.2.2.getD (tN v) dF).length:Nat):Int) - 0)+1) rfl (Nat.zero_le _) (by omega) (by omega)
 rw [show(((0:Nat):Int))=0 from rfl] at e
 rw [e];rfl
theorem aQo (l:gX)(o:uX):tS l o=kR l o:=by
 unfold tS kR
 rw [aHp]
 cases h0:((gR l (o.1.1,o.1.2):Int) != 0) with
 | true=>rfl
 | false =>
  have hc:=bne_eq_false_iff_eq.1 h0
  have e:gW l o=gA l o:=by
   funext ⟨v1,v2⟩
   simp only [gW,gA]
   rw [aMe,aFu (t:=(o.1.1,o.1.2)) v2 hc]
   cases h1:(((o.2.2.length:Int):Int) != (o.2.1.length:Int)) with
   | true=>rfl
   | false =>
    have hl:o.2.2.length=o.2.1.length:=by have:=bne_eq_false_iff_eq.1 h1;omega
    rw [aUv l o hl,hl]
  rw [e]
def GD (o:uX)(j:Nat):Prop:=(((o.2.2.getD j dF).length:Nat):Int)=F43 (o.1.1,o.1.2) (o.2.1.getD j dF)/\∀i,i < (o.2.2.getD j dF).length->xJ ((o.2.2.getD j dF).getD i dF)=true
theorem aSt (l:gX)(o:uX)(v:Int):aH (gM l o) (tN ((((o.2.2.getD (tN v) dF).length:Nat):Int) - 0)+1) (v,0)=.inr 1 \/
 (aH (gM l o) (tN ((((o.2.2.getD (tN v) dF).length:Nat):Int) - 0)+1) (v,0)=.inl (v+1)/\∀i,i < (o.2.2.getD (tN v) dF).length->xJ ((o.2.2.getD (tN v) dF).getD i dF)=true):=by
 refine lF (S:=gM l o) (fun x:Int×Int=>tN ((((o.2.2.getD (tN v) dF).length:Nat):Int) - x.2)) (fun x:Int×Int=>x.1=v/\0<=x.2/\x.2<=(((o.2.2.getD (tN v) dF).length:Nat):Int)/\∀i,i < tN x.2->xJ ((o.2.2.getD (tN v) dF).getD i dF)=true)
  (fun r:Int⊕Int=>r=.inr 1\/(r=.inl (v+1)/\∀i,i < (o.2.2.getD (tN v) dF).length->xJ ((o.2.2.getD (tN v) dF).getD i dF)=true)) ?_ _ _ ⟨rfl,Int.le_refl _,by simp only;omega,fun i hi=>absurd hi (by simp)⟩ (by simp only;omega)
 rintro ⟨a,b⟩ ⟨rfl,h1,h2,h3⟩
 simp only at h1 h2 h3
 simp only [gM]
 by_cases hb:b < (((o.2.2.getD (tN a) dF).length:Nat):Int)
 ·rw [cH hb,cond_true]
  cases hv:xJ ((o.2.2.getD (tN a) dF).getD (tN b) dF) with
  | false=>exact .inr ⟨_,rfl,.inl rfl⟩
  | true =>
   refine .inl ⟨_,rfl,⟨rfl,by simp only;omega,by simp only;omega,fun i hi=>?_⟩,by simp only;omega⟩
   simp only at hi
   by_cases he:i=tN b
   ·rw [he];exact hv
   ·exact h3 i (by omega)
 ·rw [dA hb,cond_false]
  exact .inr ⟨_,rfl,.inr ⟨rfl,fun i hi=>h3 i (by omega)⟩⟩
theorem aUw {l:gX} {o:uX} (h:aH (gN l o) (tN ((o.2.2.length:Int) - 0)+1) 0=0):∀j,j < o.2.2.length->GD o j:=by
 refine lF (S:=gN l o) (fun v=>tN ((o.2.2.length:Int) - v)) (fun v=>0<=v/\v<=(o.2.2.length:Int)/\∀j,j < tN v->GD o j) (fun r=>r=0->∀j,j < o.2.2.length->GD o j) ?_ _ _ ⟨Int.le_refl _,by omega,fun j hj=>absurd hj (by simp)⟩ (by omega) h
 rintro v ⟨h1,h2,h3⟩
 simp only [gN]
 by_cases hv:v < (o.2.2.length:Int)
 ·rw [cH hv,cond_true]
  cases hc:(((((o.2.2.getD (tN v) dF).length:Nat):Int):Int) != (F43 (o.1.1,o.1.2) (o.2.1.getD (tN v) dF))) with
  | true=>exact .inr ⟨_,rfl,fun e=>by cases e⟩
  | false =>
   rw [cond_false]
   rcases aSt l o v with e | ⟨e,hg⟩
   ·rw [e];exact .inr ⟨_,rfl,fun e=>by cases e⟩
   ·rw [e]
    refine .inl ⟨_,rfl,⟨by omega,by omega,fun j hj=>?_⟩,by omega⟩
    by_cases he:j=tN v
    ·rw [he];exact⟨bne_eq_false_iff_eq.1 hc,hg⟩
    ·exact h3 j (by omega)
 ·rw [dA hv,cond_false]
  exact .inr ⟨_,rfl,fun _ j hj=>h3 j (by omega)⟩
theorem aKa {l:gX} {o:uX} (h:kR l o=0):ACQ l o/\∀j,j < o.2.2.length->GD o j:=by
 unfold kR at h
 cases h0:((gR l (o.1.1,o.1.2):Int) != 0) with
 | true=>rw [h0,cond_true] at h;rw [h] at h0;cases h0
 | false =>
  rw [h0,cond_false] at h
  have hc:=bne_eq_false_iff_eq.1 h0
  refine lF (S:=gA l o) (fun x=>tN (17 - x.2)) (fun x=>FND o x.1) (fun r=>r=0->ACQ l o/\∀j,j < o.2.2.length->GD o j) ?_ _ _ pS (by simp only;omega) h
  rintro ⟨v1,v2⟩ hf
  simp only at hf
  simp only [gA]
  have key:(!v1)=false->∃r,(bif (((o.2.2.length:Int):Int) != (o.2.1.length:Int)) then(.inr 1) else(.inr (aH (gN l o) (tN ((o.2.2.length:Int) - 0)+1) 0)):(Bool×Int)⊕Int)=.inr r/\(r=0->ACQ l o/\∀j,j < o.2.2.length->GD o j):=fun hb=>by
   cases hl:(((o.2.2.length:Int):Int) != (o.2.1.length:Int)) with
   | true=>exact⟨1,rfl,fun e=>by cases e⟩
   | false=>exact⟨_,rfl,fun e=>⟨lE hc hf hb hl,aUw e⟩⟩
  by_cases h2:v2<=16
  ·rw [cH h2,cond_true]
   cases hb:(!v1) with
   | true=>exact .inl ⟨_,rfl,pT,by simp only;omega⟩
   | false=>exact .inr (key hb)
  ·rw [dA h2,cond_false]
   cases hb:(!v1) with
   | true=>exact .inr ⟨1,rfl,fun e=>by cases e⟩
   | false=>exact .inr (key hb)
theorem aSu {t:TR} {b:BLK} (h1:0<=(t.2.getD (tN b.1) dF).1/\(t.2.getD (tN b.1) dF).1<=(t.2.getD (tN b.1) dF).2.1/\(t.2.getD (tN b.1) dF).2.1<=96)
 (h2:0<=(t.2.getD (tN b.2.1) dF).1/\(t.2.getD (tN b.2.1) dF).1<=(t.2.getD (tN b.2.1) dF).2.1/\(t.2.getD (tN b.2.1) dF).2.1<=96) :
 F43 t b=bif b.2.2 then 1 else((t.2.getD (tN b.1) dF).2.1 - (t.2.getD (tN b.1) dF).1)*((t.2.getD (tN b.2.1) dF).2.1 - (t.2.getD (tN b.2.1) dF).1):=by
 unfold F43
 have m:=Int.mul_le_mul (a:=(t.2.getD (tN b.1) dF).2.1 - (t.2.getD (tN b.1) dF).1) (b:=(t.2.getD (tN b.2.1) dF).2.1 - (t.2.getD (tN b.2.1) dF).1) (c:=96) (d:=96) (by omega) (by omega) (by omega) (by omega)
 have m0:0<=((t.2.getD (tN b.1) dF).2.1 - (t.2.getD (tN b.1) dF).1)*((t.2.getD (tN b.2.1) dF).2.1 - (t.2.getD (tN b.2.1) dF).1):=Int.mul_nonneg (by omega) (by omega)
 rw [aS (n:=(t.2.getD (tN b.1) dF).2.1 - (t.2.getD (tN b.1) dF).1) (by omega) (by omega),aS (n:=(t.2.getD (tN b.2.1) dF).2.1 - (t.2.getD (tN b.2.1) dF).1) (by omega) (by omega),aS (by omega) (by omega)]
theorem aKb {l:gX} {o:uX} (h:kR l o=0)(hsl:∀j:Nat,(o.2.2.getD j dF).length<=10000):EntOK l.length o:=by
 obtain⟨ha,hg⟩:=aKa h
 obtain⟨d1,d2,d3,d4,d5⟩:=ha.dims
 refine⟨⟨by omega,by omega⟩,fun hb=>?_,by omega,by rw [fZ];exact d4,⟨ha.len,d5⟩,fun j=>by have:=hsl j;omega,fun j h0 h1=>?_⟩
 ·rcases Nat.eq_zero_or_pos l.length with e | e
  ·exfalso
   obtain⟨hv,leaf,h1,_,e1⟩:=uU ha.chk
   rcases aFo l h1 with⟨_,e2⟩ | ⟨hh,H⟩
   ·obtain⟨sep,e3⟩:=ha.blk
    rw [show o.1=([],[]) from e1.trans e2] at e3
    rw [show F42 ([],[]) sep=[] from rfl] at e3
    rw [e3] at hb;exact absurd hb (Nat.lt_irrefl _)
   ·have:=cG H;omega
  ·omega
 ·obtain⟨b1,b2,b3,b4⟩:=ha.bf h0 h1
  refine⟨b1,b2,b3,b4,?_⟩
  have:=(hg (tN j) (by have:=ha.len;omega)).1
  rw [this]
  exact aSu (t:=(o.1.1,o.1.2)) ⟨b3.1,b3.2.1,by simp only;omega⟩ ⟨b4.1,b4.2.1,by simp only;omega⟩
theorem aUx {a:Int×Int} (h:xJ a=true):vs a:=by
 unfold xJ at h
 by_cases h1:a.1≥-1099511627776
 ·rw [cH h1,cond_true] at h
  by_cases h2:a.1<=a.2
  ·rw [cH h2,cond_true] at h
   exact⟨h1,h2,cJ h⟩
  ·rw [dA h2,cond_false] at h;cases h
 ·rw [dA h1,cond_false] at h;cases h
theorem aH6:vs ((0,0):Int×Int):=by unfold vs;omega
theorem aH7 {α:Type} [Inhabited α] {l:List α} {k i:Nat} {v d:α}:(l.set k v).getD i d=if i=k/\k < l.length then v else l.getD i d:=by
 rw [fV,List.getElem?_set]
 by_cases h:k=i
 ·subst h
  rw [if_pos rfl]
  by_cases h2:k < l.length
  ·rw [if_pos h2,if_pos ⟨rfl,h2⟩];rfl
  ·rw [if_neg h2,if_neg (fun e=>h2 e.2),fV,List.getElem?_eq_none (by omega)]
 ·rw [if_neg h,if_neg (fun e=>h e.1.symm),fV]
structure EV (n:Nat) (t:List (List (Int×Int))):Prop where
 tl:TL n t n
 val:∀i j,vs ((t.getD i []).getD j dF)
theorem EV.put {n:Nat} {t:List (List (Int×Int))} (h:EV n t) {k q:Nat} {v:Int×Int} (hk:k < n)(hv:vs v):EV n (t.set k ((t.getD k []).set q v)):=by
 refine⟨h.tl.set (by rw [List.length_set];exact h.tl.2 k hk) k,fun i j=>?_⟩
 rw [aH7]
 split
 ·rw [aH7]
  split
  ·exact hv
  ·exact h.val k j
 ·exact h.val i j
theorem EV.rep (n:Nat):EV n (List.replicate n (List.replicate n ((0,0):Int×Int))):=by
 refine⟨⟨by simp,fun j hj=>?_⟩,fun i j=>?_⟩
 ·rw [fV,List.getElem?_replicate,if_pos hj];simp
 ·have e:(List.replicate n (List.replicate n ((0,0):Int×Int))).getD i []=List.replicate n (0,0)\/(List.replicate n (List.replicate n ((0,0):Int×Int))).getD i []=[]:=by
   rw [fV,List.getElem?_replicate]
   split
   ·exact .inl rfl
   ·exact .inr rfl
  rcases e with e | e
  ·rw [e,fV,List.getElem?_replicate]
   split
   ·exact aH6
   ·exact aH6
  ·rw [e];exact aH6
structure EOV (l:gX) (o:uX):Prop where
 ok:EntOK l.length o
 vo:∀i j:Nat,vs ((o.2.2.getD i dF).getD j dF)
theorem aQp {l:gX} {o:uX} (h:kR l o=0)(hsl:∀j:Nat,(o.2.2.getD j dF).length<=10000):EOV l o:=by
 refine⟨aKb h hsl,fun i j=>?_⟩
 obtain⟨ha,hg⟩:=aKa h
 by_cases hi:i < o.2.2.length
 ·by_cases hj:j < (o.2.2.getD i dF).length
  ·exact aUx ((hg i hi).2 j hj)
  ·rw [fV (l:=o.2.2.getD i dF),List.getElem?_eq_none (by omega)];exact aH6
 ·rw [fV (l:=o.2.2),List.getElem?_eq_none (by omega)]
  exact aH6
theorem aTl {l:gX} {o:uX} (he:EOV l o) {j p lo hi i s b0 b1 c0 c1 s2 k c2 c3 c4 c5 c6 c7 d2 d3 d4 d5 d6 d7 e2 e3 e4 e5 e6 e7:Int} {far:Bool} (h0:0 < l.length)(hc:0<=c0)(hk:k=o.1.1.getD (tN p) dF)(hs2:s2=c1 - c0)(hfar:far=(o.2.1.getD (tN j) dF).2.2) :
 ∀(d n m:Nat) (t:List (List (Int×Int))) (a q:Int),q+d=c1->c0<=q->d < n->d < m->EV l.length t->∃t2 a2,EV l.length t2 /\
   aH (nR l.length o) n (t,j,a,k,j,lo,hi,s,i,c0,c1,s2,q - c0,b0,b1,far,c0,c1,c2,c3,c4,c5,c6,c7)=.inl (t2,j,a2,j,lo,hi,s,i+1,b0,b1,far,c0,c1,c2,c3,c4,c5,c6,c7) /\
   aH (iB l o) m (t,j,a,p,q,lo,hi,d2,d3,d4,d5,d6,d7,c0,c1,e2,e3,e4,e5,e6,e7)=.inl (t2,j,a2,p+1,lo,hi,d2,d3,d4,d5,d6,d7,c0,c1,e2,e3,e4,e5,e6,e7)
 | 0,n,m,t,a,q,hq,hcq,hn,hm,ht=>by
  obtain⟨n,rfl⟩:∃x,n=x+1:=⟨n - 1,by omega⟩
  obtain⟨m,rfl⟩:∃x,m=x+1:=⟨m - 1,by omega⟩
  refine⟨t,a,ht,?_,?_⟩
  ·refine aQ ?_
   simp only [nR]
   rw [dA (by omega),cond_false]
  ·refine aQ ?_
   simp only [iB]
   rw [dA (by omega),cond_false]
 | d+1,n,m,t,a,q,hq,hcq,hn,hm,ht=>by
  obtain⟨n,rfl⟩:∃x,n=x+1:=⟨n - 1,by omega⟩
  obtain⟨m,rfl⟩:∃x,m=x+1:=⟨m - 1,by omega⟩
  have hkr:=he.ok.ord.atD (by omega) (tN p)
  rw [←hk,fZ] at hkr
  have ht2:EV l.length (t.set (tN k) ((t.getD (tN k) []).set (tN (o.1.1.getD (tN q) dF)) ((o.2.2.getD (tN j) dF).getD (tN a) dF))):=ht.put (by omega) (he.vo _ _)
  have e1:nR l.length o (t,j,a,k,j,lo,hi,s,i,c0,c1,s2,q - c0,b0,b1,far,c0,c1,c2,c3,c4,c5,c6,c7) =
   .inl (t.set (tN k) ((t.getD (tN k) []).set (tN (o.1.1.getD (tN q) dF)) ((o.2.2.getD (tN j) dF).getD (tN a) dF)),j,(bif !far then W (a+1) else a),k,j,lo,hi,s,i,c0,c1,s2,q+1 - c0,b0,b1,far,c0,c1,c2,c3,c4,c5,c6,c7):=by
   simp only [nR,sT,oI]
   rw [cH (by omega),cond_true,show tN c0+tN (q - c0)=tN q from by omega,show q - c0+1=q+1 - c0 from by omega]
   cases far<;>rfl
  have e2:iB l o (t,j,a,p,q,lo,hi,d2,d3,d4,d5,d6,d7,c0,c1,e2,e3,e4,e5,e6,e7) =
   .inl (t.set (tN k) ((t.getD (tN k) []).set (tN (o.1.1.getD (tN q) dF)) ((o.2.2.getD (tN j) dF).getD (tN a) dF)),j,(bif !far then W (a+1) else a),p,q+1,lo,hi,d2,d3,d4,d5,d6,d7,c0,c1,e2,e3,e4,e5,e6,e7):=by
   simp only [iB,nA,kC]
   rw [cH (by omega),cond_true,←hfar,←hk]
   cases far<;>rfl
  rw [aI e1,aI e2]
  exact aTl he h0 hc hk hs2 hfar d n m _ _ (q+1) (by omega) (by omega) (by omega) (by omega) ht2
theorem aTm {l:gX} {o:uX} (he:EOV l o) {j lo hi s b0 b1 c0 c1 c2 c3 c4 c5 c6 c7 d2 d3 d4 d5 d6 d7 e2 e3 e4 e5 e6 e7:Int} {far:Bool} (h0:0 < l.length)(hc:0<=c0/\c0<=c1)(hlo:0<=lo)(hs:s=hi - lo)(hfar:far=(o.2.1.getD (tN j) dF).2.2) :
 ∀(d n m:Nat) (t:List (List (Int×Int))) (a p:Int),p+d=hi->lo<=p->d < n->d < m->EV l.length t->∃t2,EV l.length t2 /\
   aH (mA l.length o) n (t,j,a,j,lo,hi,s,p - lo,b0,b1,far,c0,c1,c2,c3,c4,c5,c6,c7)=.inl (t2,j+1) /\
   aH (gL l o) m (t,j,a,p,lo,hi,d2,d3,d4,d5,d6,d7,c0,c1,e2,e3,e4,e5,e6,e7)=.inl (t2,j+1)
 | 0,n,m,t,a,p,hq,hcq,hn,hm,ht=>by
  obtain⟨n,rfl⟩:∃x,n=x+1:=⟨n - 1,by omega⟩
  obtain⟨m,rfl⟩:∃x,m=x+1:=⟨m - 1,by omega⟩
  refine⟨t,ht,?_,?_⟩
  ·refine aQ ?_
   simp only [mA]
   rw [dA (by omega),cond_false]
  ·refine aQ ?_
   simp only [gL]
   rw [dA (by omega),cond_false]
 | d+1,n,m,t,a,p,hq,hcq,hn,hm,ht=>by
  obtain⟨n,rfl⟩:∃x,n=x+1:=⟨n - 1,by omega⟩
  obtain⟨m,rfl⟩:∃x,m=x+1:=⟨m - 1,by omega⟩
  obtain⟨t2,a2,g1,g2,g3⟩:=aTl (lo:=lo) (hi:=hi) (i:=p - lo) (s:=s) (b0:=b0) (b1:=b1) (c2:=c2) (c3:=c3) (c4:=c4) (c5:=c5) (c6:=c6) (c7:=c7) (d2:=d2) (d3:=d3) (d4:=d4) (d5:=d5) (d6:=d6) (d7:=d7) (e2:=e2) (e3:=e3) (e4:=e4) (e5:=e5) (e6:=e6) (e7:=e7) he h0 hc.1 rfl (s2:=((tN c1 - tN c0:Nat):Int)) (c1:=c1) (by omega) hfar (tN (c1 - c0)) (tN (((tN c1 - tN c0:Nat):Int) - 0)+1) (tN (c1 - c0)+1) t a c0 (by omega) (Int.le_refl _) (by omega) (by omega) ht (p:=p)
  rw [Int.sub_self] at g2
  have e1:mA l.length o (t,j,a,j,lo,hi,s,p - lo,b0,b1,far,c0,c1,c2,c3,c4,c5,c6,c7)=.inl (t2,j,a2,j,lo,hi,s,p+1 - lo,b0,b1,far,c0,c1,c2,c3,c4,c5,c6,c7):=by
   simp only [mA]
   rw [cH (by omega),cond_true,show tN lo+tN (p - lo)=tN p from by omega,g2,show p - lo+1=p+1 - lo from by omega]
  have e2:gL l o (t,j,a,p,lo,hi,d2,d3,d4,d5,d6,d7,c0,c1,e2,e3,e4,e5,e6,e7)=.inl (t2,j,a2,p+1,lo,hi,d2,d3,d4,d5,d6,d7,c0,c1,e2,e3,e4,e5,e6,e7):=by
   simp only [gL]
   rw [cH (by omega),cond_true,g3]
  rw [aI e1,aI e2]
  exact aTm he h0 hc hlo hs hfar d n m t2 a2 (p+1) (by omega) (by omega) (by omega) (by omega) g1
theorem aTn {l:gX} {o:uX} (he:EOV l o):∀(d n m:Nat) (t:List (List (Int×Int))) (j:Int),j+d=o.2.1.length->0<=j->d < n->d < m->EV l.length t->∃t2,EV l.length t2 /\
 aH (kB l.length o) n (t,j)=t2/\aH (fR l o) m (t,j)=t2
 | 0,n,m,t,j,hj,h0,hn,hm,ht=>by
  obtain⟨n,rfl⟩:∃x,n=x+1:=⟨n - 1,by omega⟩
  obtain⟨m,rfl⟩:∃x,m=x+1:=⟨m - 1,by omega⟩
  refine⟨t,ht,?_,?_⟩
  ·refine aQ ?_
   simp only [kB]
   rw [dA (by omega),cond_false];rfl
  ·refine aQ ?_
   simp only [fR]
   rw [dA (by omega),cond_false];rfl
 | d+1,n,m,t,j,hj,h0,hn,hm,ht=>by
  obtain⟨n,rfl⟩:∃x,n=x+1:=⟨n - 1,by omega⟩
  obtain⟨m,rfl⟩:∃x,m=x+1:=⟨m - 1,by omega⟩
  have hb:=he.ok.blk j h0 (by omega)
  have hl:=he.ok.nz (by omega)
  obtain⟨b1,b2,b3,b4,_⟩:=hb
  generalize hN1:o.1.2.getD (tN (o.2.1.getD (tN j) dF).1) dF=N1 at b3
  generalize hN2:o.1.2.getD (tN (o.2.1.getD (tN j) dF).2.1) dF=N2 at b4
  obtain⟨t2,g1,g2,g3⟩:=aTm (b0:=(o.2.1.getD (tN j) dF).1) (b1:=(o.2.1.getD (tN j) dF).2.1) (far:=(o.2.1.getD (tN j) dF).2.2) (c0:=N2.1) (c1:=N2.2.1) (c2:=N2.2.2.1) (c3:=N2.2.2.2.1) (c4:=N2.2.2.2.2.1.1) (c5:=N2.2.2.2.2.1.2.1) (c6:=N2.2.2.2.2.1.2.2) (c7:=N2.2.2.2.2.2)
   (d2:=N1.2.2.1) (d3:=N1.2.2.2.1) (d4:=N1.2.2.2.2.1.1) (d5:=N1.2.2.2.2.1.2.1) (d6:=N1.2.2.2.2.1.2.2) (d7:=N1.2.2.2.2.2) (e2:=N2.2.2.1) (e3:=N2.2.2.2.1) (e4:=N2.2.2.2.2.1.1) (e5:=N2.2.2.2.2.1.2.1) (e6:=N2.2.2.2.2.1.2.2) (e7:=N2.2.2.2.2.2) he (by omega) ⟨b4.1,b4.2.1⟩ b3.1 (s:=((tN N1.2.1 - tN N1.1:Nat):Int)) (hi:=N1.2.1) (by omega) rfl
   (tN (N1.2.1 - N1.1)) (tN (((tN N1.2.1 - tN N1.1:Nat):Int) - 0)+1) (tN (N1.2.1 - N1.1)+1) t 0 N1.1 (by omega) (Int.le_refl _) (by omega) (by omega) ht (j:=j)
  rw [Int.sub_self] at g2
  have e1:kB l.length o (t,j)=.inl (t2,j+1):=by
   simp only [kB]
   rw [cH (by omega),cond_true,hN1,hN2]
   exact g2
  have e2:fR l o (t,j)=.inl (t2,j+1):=by
   simp only [fR]
   rw [cH (by omega),cond_true,hN1,hN2]
   exact g3
  rw [aI e1,aI e2]
  exact aTn he d n m t2 (j+1) (by omega) (by omega) (by omega) (by omega) g1
theorem aH8 {α:Type} (n:Nat)(r:α):List.replicate n r++[r]=List.replicate (n+1) r:=by rw [List.replicate_succ']
theorem aSv {α:Type} (i d:Nat)(r z:α):(List.replicate i r++List.replicate (d+1) z).set i r=List.replicate (i+1) r++List.replicate d z:=by
 rw [List.set_append,if_neg (by simp),List.length_replicate,Nat.sub_self,List.replicate_succ,List.set_cons_zero,←aH8,List.append_assoc];rfl
theorem aTo (l:gX)(o:uX):∀(d i n:Nat),i+d=l.length->d < n->aH (nS l.length o) n (List.replicate i (List.replicate l.length ((0,0):Int×Int))++List.replicate d [],(i:Int)) =
 aH (kB l.length o) (tN ((o.2.1.length:Int) - 0)+1) (List.replicate l.length (List.replicate l.length ((0,0):Int×Int)),0)
 | 0,i,n,hi,hn=>by
  obtain⟨n,rfl⟩:∃x,n=x+1:=⟨n - 1,by omega⟩
  obtain rfl:i=l.length:=by omega
  refine aQ ?_
  simp only [nS]
  rw [dA (by rw [fZ];omega),cond_false,List.replicate_zero,List.append_nil]
 | d+1,i,n,hi,hn=>by
  obtain⟨n,rfl⟩:∃x,n=x+1:=⟨n - 1,by omega⟩
  have e:nS l.length o (List.replicate i (List.replicate l.length ((0,0):Int×Int))++List.replicate (d+1) [],(i:Int))=.inl (List.replicate (i+1) (List.replicate l.length ((0,0):Int×Int))++List.replicate d [],((i+1:Nat):Int)):=by
   simp only [nS,yC,yB]
   rw [cH (by rw [fZ];omega),cond_true,fZ,fZ,aSv];rfl
  rw [aI e]
  exact aTo l o d (i+1) n (by omega) (by omega)
theorem aTp (l:gX)(o:uX):∀(d i n:Nat),i+d=l.length->d < n->aH (iC l o) n (List.replicate i (List.replicate l.length ((0,0):Int×Int)),(i:Int)) =
 aH (fR l o) (tN ((o.2.1.length:Int) - 0)+1) (List.replicate l.length (List.replicate l.length ((0,0):Int×Int)),0)
 | 0,i,n,hi,hn=>by
  obtain⟨n,rfl⟩:∃x,n=x+1:=⟨n - 1,by omega⟩
  obtain rfl:i=l.length:=by omega
  refine aQ ?_
  simp only [iC]
  rw [dA (by omega),cond_false]
 | d+1,i,n,hi,hn=>by
  obtain⟨n,rfl⟩:∃x,n=x+1:=⟨n - 1,by omega⟩
  have e:iC l o (List.replicate i (List.replicate l.length ((0,0):Int×Int)),(i:Int))=.inl (List.replicate (i+1) (List.replicate l.length ((0,0):Int×Int)),((i+1:Nat):Int)):=by
   simp only [iC,pO,pN]
   rw [cH (by omega),cond_true,aH8];rfl
  rw [aI e]
  exact aTp l o d (i+1) n (by omega) (by omega)
theorem aQq {l:gX} {o:uX} (he:EOV l o):F23 l.length o=pQ l o/\EV l.length (pQ l o):=by
 obtain⟨t2,g1,g2,g3⟩:=aTn he o.2.1.length (tN ((o.2.1.length:Int) - 0)+1) (tN ((o.2.1.length:Int) - 0)+1) _ 0 (by omega) (Int.le_refl _) (by omega) (by omega) (EV.rep l.length)
 have e1:=aTo l o l.length 0 (tN ((((tN (l.length:Int)):Nat):Int) - 0)+1) (by omega) (by rw [fZ];omega)
 have e2:=aTp l o l.length 0 (tN ((l.length:Int) - 0)+1) (by omega) (by omega)
 have f1:F23 l.length o=t2:=by
  unfold F23
  rw [g2] at e1
  exact e1
 have f2:pQ l o=t2:=by
  unfold pQ
  rw [g3] at e2
  exact e2
 rw [f1,f2]
 exact⟨rfl,g1⟩
theorem aSw {a:Int×Int} {n:Int} (ha:vs a)(hn:-1099511627776<=n/\n<=1099511627776):wX a n=zR a n:=(aRb ha hn).trans (aRc ha hn).symm
theorem aSx {L:List (Int×Int)} (hl:∀a∈L,vs a)(hn:L.length<=10000):jG L=jH L:=(aVs hl hn).trans (aVt hl hn).symm
theorem aUy {l:gX} {m:List (List (Int×Int))} (hm:EV l.length m)(hl:l.length<=96)(hq:∀i,i < l.length->-100<=(l.getD i dF).2/\(l.getD i dF).2<=100)(n:Nat)(v:List (Int×Int))(j:Int) :
 aH (fE l m) n (v,[],j,j,0)=aH (dU l m) n (v,[],j,0):=by
 refine aDq (S:=fE l m) (S':=dU l m) (fun x y=>x.1=y.1/\x.2.1=y.2.1/\x.2.2.1=y.2.2.1/\x.2.2.2.1=x.2.2.1/\x.2.2.2.2=y.2.2.2/\0<=x.2.2.2.2/\x.2.2.2.2<=(l.length:Int)/\x.2.1.length=tN x.2.2.2.2/\∀a∈x.2.1,vs a) ?_ n _ _ ⟨rfl,rfl,rfl,rfl,rfl,Int.le_refl _,by simp only;omega,rfl,fun a ha=>by cases ha⟩
 rintro ⟨x1,x2,x3,x4,x5⟩ ⟨y1,y2,y3,y4⟩ ⟨h1,h2,h3,h4,h5,h6,h7,h8,h9⟩
 simp only at h1 h2 h3 h4 h5 h6 h7 h8 h9
 subst h1 h2 h3 h5
 simp only [fE,dU]
 by_cases hb:x5 < (l.length:Int)
 ·rw [cH hb,cond_true,cond_true]
  have hc:=hq (tN x5) (by omega)
  have hv:vs ((m.getD (tN x5) dF).getD (tN x3) dF):=hm.val (tN x5) (tN x3)
  rw [←aSw hv (by omega)]
  cases hz:((wX ((m.getD (tN x5) dF).getD (tN x3) dF) (l.getD (tN x5) dF).2).2 != 0) with
  | true=>exact .inr ⟨_,rfl,rfl⟩
  | false =>
   have hs:=aOl (bne_eq_false_iff_eq.1 hz)
   refine .inl ⟨_,_,rfl,rfl,rfl,rfl,rfl,h4,rfl,by simp only;omega,by simp only;omega,by simp only [List.length_append,List.length_singleton];omega,fun a ha=>?_⟩
   rcases List.mem_append.1 ha with ha | ha
   ·exact h9 a ha
   ·rw [List.mem_singleton.1 ha];exact hs
 ·rw [dA hb,cond_false,cond_false,←aSx h9 (by omega),h4]
  cases ((jG x2).2 != 0) with
  | true=>exact .inr ⟨_,rfl,rfl⟩
  | false=>exact .inr ⟨_,rfl,rfl⟩
theorem aUz {l:gX} {m:List (List (Int×Int))} (hm:EV l.length m)(hl:l.length<=96)(hq:∀i,i < l.length->-100<=(l.getD i dF).2/\(l.getD i dF).2<=100):mX l m=kS l m:=by
 unfold mX kS
 have e:eV l m=dV l m:=by
  funext ⟨v,j⟩
  simp only [eV,dV]
  rw [aUy hm hl hq]
 rw [e]
theorem aH9 {l:gX} {o:uX} (h:kR l o=0)(hsl:∀j:Nat,(o.2.2.getD j dF).length<=10000):l.length<=96/\(F23 l.length o).length=l.length/\(∀j:Nat,j < l.length->((F23 l.length o).getD j dF).length=l.length) /\
 (pQ l o).length=l.length/\(∀j:Nat,j < l.length->((pQ l o).getD j dF).length=l.length):=by
 have he:=aQp h hsl
 obtain⟨e,hv⟩:=aQq he
 have:=he.ok.n1
 rw [e]
 exact⟨by omega,hv.tl.1,fun j hj=>hv.tl.2 j hj,hv.tl.1,fun j hj=>hv.tl.2 j hj⟩
def vD (a0:bO)(a1:(List Int×bF)×(List (Int×Int×Bool))×List (List (Int×Int))):(List (Int×Int))×Int :=
 (bif (((tS a0 ((a1.1.1,a1.1.2),a1.2.1,a1.2.2)):Int) != 0) then
  (([]:List (Int×Int)),(tS a0 ((a1.1.1,a1.1.2),a1.2.1,a1.2.2)))
 else
  ((mX a0 (F23 (a0.length:Int) ((a1.1.1,a1.1.2),a1.2.1,a1.2.2))).1,(mX a0 (F23 (a0.length:Int) ((a1.1.1,a1.1.2),a1.2.1,a1.2.2))).2))
theorem aXl (a0:bO)(a1:(List Int×bF)×(List (Int×Int×Bool))×List (List (Int×Int)))(l0:a0.length<=2^63-1)(l1_1_1:a1.1.1.length<=2^63-1)(l1_1_2:a1.1.2.length<=2^63-1)(l1_2_1:a1.2.1.length<=2^63-1)(l1_2_2:a1.2.2.length<=2^63-1)(hsl:∀j:Nat,(a1.2.2.getD j dF).length<=10000):Con Tryz.prog 8 [(.s 0 0 a0.length 10),(.a [(.s 1 0 a1.1.1.length 1),(.s 2 0 a1.1.2.length 8),(.s 3 0 a1.2.1.length 3),(.s 4 0 a1.2.2.length 1)])] [(.live false true (flat dC a0)),(.live false true (flat c3 a1.1.1)),(.live false true (flat cB a1.1.2)),(.live false true (flat fC a1.2.1)),(.live false true (flat jM a1.2.2))] (.t [(.s 5 0 (vD a0 a1).1.length 2),(iv (vD a0 a1).2)]) [(.live true true (flat eW (vD a0 a1).1))]:=by
 refine aY Tryz.func8 (by kernel_rfl) fun cx hcx=>?_
 let t0:List (St Tryz.prog):=[.c [0,1,2,3,4] (aWy a0 ((a1.1.1,a1.1.2),a1.2.1,a1.2.2) (by omega) (by omega) (by omega) (by omega) (by omega) hsl)]
 cases h0:(((tS a0 ((a1.1.1,a1.1.2),a1.2.1,a1.2.2)):Int) != 0) with
 | true =>
  have q0:=bne_iff_ne.1 h0
  have e:=Eq.refl (vD a0 a1);conv at e=>rhs;simp only [vD,h0,aT]
  rw [e]
  exact rt (t0++[.d h0]) [.slot 4 2] [6] hcx (by kernel_rfl)
 | false =>
  have q0:=bne_eq_false_iff_eq.1 h0
  try have hra:kR a0 ((a1.1.1,a1.1.2),a1.2.1,a1.2.2)=0:=by rw [←aQo];exact bne_eq_false_iff_eq.1 h0
  try have hdm:=(fun _=>aH9 (o:=((a1.1.1,a1.1.2),a1.2.1,a1.2.2)) hra hsl) h0
  try have hd1:=(fun _=>hdm.1) h0
  try have hd2:=(fun _=>hdm.2.1) h0
  try have hd3:=(fun _=>hdm.2.2.2.1) h0
  have e:=Eq.refl (vD a0 a1);conv at e=>rhs;simp only [vD,h0,aT]
  rw [e]
  exact rt (t0++[.d h0,.c [1,2,3,4] (C23 (a0.length:Int) ((a1.1.1,a1.1.2),a1.2.1,a1.2.2) (by omega) (by omega) (by omega) (by omega) (aKb hra hsl)),.c [0,6] (aSr a0 (F23 (a0.length:Int) ((a1.1.1,a1.1.2),a1.2.1,a1.2.2)) (by omega) (by omega) ⟨hdm.1,hdm.2.1,hdm.2.2.1⟩)]) [] [7] hcx (by kernel_rfl)
def mG (a0:bO)(a1:(List Int×bF)×(List (Int×Int×Bool))×List (List (Int×Int))):(List (Int×Int))×Int :=
 (bif (((kR a0 ((a1.1.1,a1.1.2),a1.2.1,a1.2.2)):Int) != 0) then
  (([]:List (Int×Int)),(kR a0 ((a1.1.1,a1.1.2),a1.2.1,a1.2.2)))
 else
  ((kS a0 (pQ a0 ((a1.1.1,a1.1.2),a1.2.1,a1.2.2))).1,(kS a0 (pQ a0 ((a1.1.1,a1.1.2),a1.2.1,a1.2.2))).2))
theorem aW0 (a0:bO)(a1:(List Int×bF)×(List (Int×Int×Bool))×List (List (Int×Int)))(l0:a0.length<=2^63-1)(l1_1_1:a1.1.1.length<=2^63-1)(l1_1_2:a1.1.2.length<=2^63-1)(l1_2_1:a1.2.1.length<=2^63-1)(l1_2_2:a1.2.2.length<=2^63-1)(hsl:∀j:Nat,(a1.2.2.getD j dF).length<=10000):Con Tryz.prog 10 [(.s 0 0 a0.length 10),(.a [(.s 1 0 a1.1.1.length 1),(.s 2 0 a1.1.2.length 8),(.s 3 0 a1.2.1.length 3),(.s 4 0 a1.2.2.length 1)])] [(.live false true (flat dC a0)),(.live false true (flat c3 a1.1.1)),(.live false true (flat cB a1.1.2)),(.live false true (flat fC a1.2.1)),(.live false true (flat jM a1.2.2))] (.t [(.s 5 0 (mG a0 a1).1.length 2),(iv (mG a0 a1).2)]) [(.live true true (flat eW (mG a0 a1).1))]:=by
 refine aY Tryz.func10 (by kernel_rfl) fun cx hcx=>?_
 let t0:List (St Tryz.prog):=[.c [0,1,2,3,4] (aWz a0 ((a1.1.1,a1.1.2),a1.2.1,a1.2.2) (by omega) (by omega) (by omega) (by omega) (by omega) hsl)]
 cases h0:(((kR a0 ((a1.1.1,a1.1.2),a1.2.1,a1.2.2)):Int) != 0) with
 | true =>
  have q0:=bne_iff_ne.1 h0
  have e:=Eq.refl (mG a0 a1);conv at e=>rhs;simp only [mG,h0,aT]
  rw [e]
  exact rt (t0++[.d h0]) [.slot 4 2] [6] hcx (by kernel_rfl)
 | false =>
  have q0:=bne_eq_false_iff_eq.1 h0
  try have hra:kR a0 ((a1.1.1,a1.1.2),a1.2.1,a1.2.2)=0:=bne_eq_false_iff_eq.1 h0
  try have hdm:=(fun _=>aH9 (o:=((a1.1.1,a1.1.2),a1.2.1,a1.2.2)) hra hsl) h0
  try have hd1:=(fun _=>hdm.1) h0
  try have hd2:=(fun _=>hdm.2.1) h0
  try have hd3:=(fun _=>hdm.2.2.2.1) h0
  have e:=Eq.refl (mG a0 a1);conv at e=>rhs;simp only [mG,h0,aT]
  rw [e]
  exact rt (t0++[.d h0,.c [0,1,2,3,4] (aWx a0 ((a1.1.1,a1.1.2),a1.2.1,a1.2.2) (by omega) (by omega) (by omega) (by omega) (by omega) (aKb hra hsl)),.c [0,6] (aSs a0 (pQ a0 ((a1.1.1,a1.1.2),a1.2.1,a1.2.2)) (by omega) (by omega) ⟨hdm.1,hdm.2.2.2.1,hdm.2.2.2.2⟩)]) [] [7] hcx (by kernel_rfl)
section
variable {l : List (PN × Int)} {d : Int}
end
theorem aIa {S:Int->Int⊕Bool} {N:Nat} (h1:∀i:Nat,i < N->S (i:Int)=.inl ((i+1:Nat):Int))(h2:S (N:Int)=.inr true):∀(d i n:Nat),d=N - i->i<=N->d < n->aH S n (i:Int)=true
 | 0,i,n,hd,hi,hn=>by
  obtain⟨n,rfl⟩:∃m,n=m+1:=⟨n - 1,by omega⟩
  have:i=N:=by omega
  subst this
  exact aQ h2
 | d+1,i,n,hd,hi,hn=>by
  obtain⟨n,rfl⟩:∃m,n=m+1:=⟨n - 1,by omega⟩
  rw [aI (h1 i (by omega))]
  exact aIa h1 h2 d (i+1) n (by omega) (by omega) (by omega)
theorem aKc (l:List (Int×Int)):mW l l=true:=by
 unfold mW
 rw [show(((l.length:Int):Int) != (l.length:Int))=false by simp,cond_false]
 refine aIa (N:=l.length) (fun i hi=>?_) ?_ l.length 0 _ (by omega) (by omega) (by omega)
 ·simp only [iI]
  rw [cH (show((i:Nat):Int) < (l.length:Nat) by omega),cond_true]
  simp
 ·simp only [iI]
  rw [dA (Int.lt_irrefl _),cond_false]
section
variable {l : List (PN × Int)} {d : Int}
end
theorem yM {k:uX} (h:F6 ((k.1.1,k.1.2),k.2.1,k.2.2)=false):∀j:Nat,(k.2.2.getD j dF).length<=10000:=by
 unfold F6 at h
 simp only at h
 cases h1:decide ((k.1.1.length:Int) > 100) with
 | true=>rw [h1,cond_true] at h;cases h
 | false =>
  cases h2:decide ((k.1.2.length:Int) > 200) with
  | true=>rw [h1,h2,cond_false,cond_true] at h;cases h
  | false =>
   cases h3:decide ((k.2.1.length:Int) > 2000) with
   | true=>rw [h1,h2,h3,cond_false,cond_false,cond_true] at h;cases h
   | false =>
    cases h4:decide ((k.2.2.length:Int) > 2000) with
    | true=>rw [h1,h2,h3,h4,cond_false,cond_false,cond_false,cond_true] at h;cases h
    | false =>
     rw [h1,h2,h3,h4,cond_false,cond_false,cond_false,cond_false] at h
     have key:∀j,j < k.2.2.length->(k.2.2.getD j dF).length<=2000:=by
      refine lF (S:=aC0 ((k.1.1,k.1.2),k.2.1,k.2.2)) (fun v=>tN ((k.2.2.length:Int) - v)) (fun v=>0<=v/\∀j,j < tN v->(k.2.2.getD j dF).length<=2000) (fun r=>r=false->∀j,j < k.2.2.length->(k.2.2.getD j dF).length<=2000) ?_ _ _ ⟨Int.le_refl _,fun j hj=>absurd hj (by simp)⟩ (by omega) h
      rintro v ⟨g1,g2⟩
      simp only [aC0]
      by_cases hv:v < (k.2.2.length:Int)
      ·rw [cH hv,cond_true]
       by_cases hb:(((k.2.2.getD (tN v) dF).length:Nat):Int) > 2000
       ·rw [cH hb,cond_true];exact .inr ⟨_,rfl,fun e=>by cases e⟩
       ·rw [dA hb,cond_false]
        refine .inl ⟨_,rfl,⟨by omega,fun j hj=>?_⟩,by omega⟩
        by_cases he:j=tN v
        ·rw [he];omega
        ·exact g2 j (by omega)
      ·rw [dA hv,cond_false]
       exact .inr ⟨_,rfl,fun _ j hj=>g2 j (by omega)⟩
     intro j
     by_cases hj:j < k.2.2.length
     ·have:=key j hj;omega
     ·rw [fV,List.getElem?_eq_none (by omega)];exact Nat.zero_le _
theorem aSy {l:gX} {m:List (List (Int×Int))}:(kS l m).1.length<=l.length:=by
 unfold kS
 refine lF (S:=dV l m) (fun x=>tN ((l.length:Int) - x.2)) (fun x=>0<=x.2/\x.1.length=tN x.2/\x.2<=(l.length:Int)) (fun r=>r.1.length<=l.length) ?_ _ _ ⟨Int.le_refl _,rfl,by simp only;omega⟩ (by simp only;omega)
 rintro ⟨v,j⟩ ⟨h1,h2,h3⟩
 simp only at h1 h2 h3
 simp only [dV]
 by_cases hj:j < (l.length:Int)
 ·rw [cH hj,cond_true]
  have key:∀r,r=aH (dU l m) (tN ((l.length:Int) - 0)+1) (v,[],j,0)->(∃s,r=.inl (v++[s],j+1))\/∃e:Int,r=.inr ([],e):=by
   rintro r rfl
   refine lF (S:=dU l m) (fun x=>tN ((l.length:Int) - x.2.2.2)) (fun x=>x.1=v/\x.2.2.1=j) (fun r=>(∃s,r=.inl (v++[s],j+1))\/∃e:Int,r=.inr ([],e)) ?_ _ _ ⟨rfl,rfl⟩ (by simp only;omega)
   rintro ⟨x1,x2,x3,x4⟩ ⟨rfl,rfl⟩
   simp only [dU]
   by_cases hx:x4 < (l.length:Int)
   ·rw [cH hx,cond_true]
    cases ((zR ((m.getD (tN x4) dF).getD (tN x3) dF) (l.getD (tN x4) dF).2).2 != 0) with
    | true=>exact .inr ⟨_,rfl,.inr ⟨_,rfl⟩⟩
    | false=>exact .inl ⟨_,rfl,⟨rfl,rfl⟩,by simp only;omega⟩
   ·rw [dA hx,cond_false]
    cases ((jH x2).2 != 0) with
    | true=>exact .inr ⟨_,rfl,.inr ⟨_,rfl⟩⟩
    | false=>exact .inr ⟨_,rfl,.inl ⟨_,rfl⟩⟩
  rcases key _ rfl with⟨s,e⟩ | ⟨e0,e⟩
  ·rw [e]
   exact .inl ⟨_,rfl,⟨by simp only;omega,by simp only [List.length_append,List.length_singleton];omega,by simp only;omega⟩,by simp only;omega⟩
  ·rw [e];exact .inr ⟨_,rfl,Nat.zero_le _⟩
 ·rw [dA hj,cond_false]
  exact .inr ⟨_,rfl,by simp only;omega⟩
theorem aIb {l:gX} {o:uX} (hsl:∀j:Nat,(o.2.2.getD j dF).length<=10000):vD l o=mG l o:=by
 unfold vD mG
 rw [aQo]
 cases h0:((kR l ((o.1.1,o.1.2),o.2.1,o.2.2):Int) != 0) with
 | true=>rfl
 | false =>
  have hr:=bne_eq_false_iff_eq.1 h0
  obtain⟨e,hv⟩:=aQq (aQp (o:=((o.1.1,o.1.2),o.2.1,o.2.2)) hr hsl)
  obtain⟨hch,_⟩:=uU (aKa hr).1.chk
  rw [e,aUz hv hch.1 (fun i hi=>(hch.2 i hi).2)]
theorem wP {l:gX} {o:uX} (hsl:∀j:Nat,(o.2.2.getD j dF).length<=10000):(vD l o).1.length<=l.length/\(mG l o).1.length<=l.length:=by
 rw [aIb hsl]
 refine⟨?_,?_⟩ <;>
 ·unfold mG
  cases ((kR l ((o.1.1,o.1.2),o.2.1,o.2.2):Int) != 0) with
  | true=>exact Nat.zero_le _
  | false=>exact aSy
def yN (a0:bO)(a1:(List Int×bF)×(List (Int×Int×Bool))×List (List (Int×Int))):Bool :=
 (bif (aCz a0) then
  F7
 else
  (bif (F6 ((a1.1.1,a1.1.2),a1.2.1,a1.2.2)) then
   F7
  else
   (bif (((vD a0 ((a1.1.1,a1.1.2),a1.2.1,a1.2.2)).2:Int) == (mG a0 ((a1.1.1,a1.1.2),a1.2.1,a1.2.2)).2) then
    (bif (mW (vD a0 ((a1.1.1,a1.1.2),a1.2.1,a1.2.2)).1 (mG a0 ((a1.1.1,a1.1.2),a1.2.1,a1.2.2)).1) then
     F7
    else
     false)
   else
    false)))
theorem aXm (a0:bO)(a1:(List Int×bF)×(List (Int×Int×Bool))×List (List (Int×Int)))(l0:a0.length<=2^63-1)(l1_1_1:a1.1.1.length<=2^63-1)(l1_1_2:a1.1.2.length<=2^63-1)(l1_2_1:a1.2.1.length<=2^63-1)(l1_2_2:a1.2.2.length<=2^63-1):Con Tryz.prog 3 [(.s 0 0 a0.length 10),(.a [(.s 1 0 a1.1.1.length 1),(.s 2 0 a1.1.2.length 8),(.s 3 0 a1.2.1.length 3),(.s 4 0 a1.2.2.length 1)])] [(.live false true (flat dC a0)),(.live false true (flat c3 a1.1.1)),(.live false true (flat cB a1.1.2)),(.live false true (flat fC a1.2.1)),(.live false true (flat jM a1.2.2))] (.v (.bool (yN a0 a1))) []:=by
 refine aY Tryz.func3 (by kernel_rfl) fun cx hcx=>?_
 let t0:List (St Tryz.prog):=[.c [0] (aXh a0 (by omega))]
 cases h0:(aCz a0) with
 | true =>
  have e:=Eq.refl (yN a0 a1);conv at e=>rhs;simp only [yN,h0,aT]
  rw [e]
  exact rt (t0++[.d h0,.c [] (C7)]) [] [] hcx (by kernel_rfl)
 | false =>
  let t1:List (St Tryz.prog):=(t0++[.d h0,.c [1,2,3,4] (C6 ((a1.1.1,a1.1.2),a1.2.1,a1.2.2) (by omega) (by omega) (by omega) (by omega))])
  cases h1:(F6 ((a1.1.1,a1.1.2),a1.2.1,a1.2.2)) with
  | true =>
   have e:=Eq.refl (yN a0 a1);conv at e=>rhs;simp only [yN,h0,h1,aT]
   rw [e]
   exact rt (t1++[.d h1,.c [] (C7)]) [] [] hcx (by kernel_rfl)
  | false =>
   try have hsl:=yM h1
   try have hln:=(fun _=>wP (l:=a0) (o:=((a1.1.1,a1.1.2),a1.2.1,a1.2.2)) hsl) h1
   let t2:List (St Tryz.prog):=(t1++[.d h1,.c [1,2,3,4] (C9 ((a1.1.1,a1.1.2),a1.2.1,a1.2.2) (by omega) (by omega) (by omega) (by omega)),.c [0,1,2,3,4] (aXl a0 ((a1.1.1,a1.1.2),a1.2.1,a1.2.2) (by omega) (by omega) (by omega) (by omega) (by omega) hsl),.c [1,2,3,4] (C11 ((a1.1.1,a1.1.2),a1.2.1,a1.2.2) (by omega) (by omega) (by omega) (by omega)),.c [0,1,2,3,4] (aW0 a0 ((a1.1.1,a1.1.2),a1.2.1,a1.2.2) (by omega) (by omega) (by omega) (by omega) (by omega) hsl)])
   cases h2:(((vD a0 ((a1.1.1,a1.1.2),a1.2.1,a1.2.2)).2:Int) == (mG a0 ((a1.1.1,a1.1.2),a1.2.1,a1.2.2)).2) with
   | true =>
    have q2:=eq_of_beq h2
    try have hsl:=yM h1
    try have hln:=(fun _=>wP (l:=a0) (o:=((a1.1.1,a1.1.2),a1.2.1,a1.2.2)) hsl) h1
    let t3:List (St Tryz.prog):=(t2++[.d h2,.c [6,7] (aSj (vD a0 ((a1.1.1,a1.1.2),a1.2.1,a1.2.2)).1 (mG a0 ((a1.1.1,a1.1.2),a1.2.1,a1.2.2)).1 (by omega) (by omega))])
    cases h3:(mW (vD a0 ((a1.1.1,a1.1.2),a1.2.1,a1.2.2)).1 (mG a0 ((a1.1.1,a1.1.2),a1.2.1,a1.2.2)).1) with
    | true =>
     try have hsl:=yM h1
     try have hln:=(fun _=>wP (l:=a0) (o:=((a1.1.1,a1.1.2),a1.2.1,a1.2.2)) hsl) h1
     have e:=Eq.refl (yN a0 a1);conv at e=>rhs;simp only [yN,h0,h1,h2,h3,aT]
     rw [e]
     exact rt (t3++[.d h3,.c [] (C7)]) [] [] hcx (by kernel_rfl)
    | false =>
     try have hsl:=yM h1
     try have hln:=(fun _=>wP (l:=a0) (o:=((a1.1.1,a1.1.2),a1.2.1,a1.2.2)) hsl) h1
     have e:=Eq.refl (yN a0 a1);conv at e=>rhs;simp only [yN,h0,h1,h2,h3,aT]
     rw [e]
     exact rt (t3++[.d h3]) [] [] hcx (by kernel_rfl)
   | false =>
    have q2:=ne_of_beq_false h2
    try have hsl:=yM h1
    try have hln:=(fun _=>wP (l:=a0) (o:=((a1.1.1,a1.1.2),a1.2.1,a1.2.2)) hsl) h1
    have e:=Eq.refl (yN a0 a1);conv at e=>rhs;simp only [yN,h0,h1,h2,aT]
    rw [e]
    exact rt (t2++[.d h2]) [] [] hcx (by kernel_rfl)
theorem aIc (l:gX)(k:uX):yN l k=true:=by
 unfold yN
 rw [aUf]
 cases h:(aCz l) with
 | true=>rfl
 | false =>
  rw [cond_false]
  cases h1:F6 ((k.1.1,k.1.2),k.2.1,k.2.2) with
  | true=>rfl
  | false =>
   rw [cond_false,aIb (o:=((k.1.1,k.1.2),k.2.1,k.2.2)) (yM h1),aKc]
   simp only [beq_self_eq_true,cond_true]
end Go.Proofs.YtkdfcbmcgnaicaaGreat
namespace Go.Proofs.YtkdfcbmcgnaicaaGreat
open Go.Proofs Go.Aw Go.RowKit
set_option maxRecDepth 100000
open Go.ChangeShapes Go.WideShapes Go.ChangeAt
inductive XK where
 | i | b | s | t
def iv2 (p:Int×Int):List SV:=[iv p.1,iv p.2]
def kx (P:Program):Nat->TypeId->Option (List XK)
 | 0,_=>none
 | k+1,t=>match P.underlying t with
  | some (.int .i64)=>some [.i]
  | some .bool=>some [.b]
  | some (.slice e)=>match P.underlying e with
   | some (.int .i64)=>bif P.cellsOf e == 1 then some [.s] else none
   | _=>match kx P k e with
    | some [.i,.i]=>bif P.cellsOf e == 2 then some [.t] else none
    | _=>none
  | some (.array n e)=>match kx P k e with
   | some ks=>bif ks.length == P.cellsOf e&&P.cellsOf t == n*P.cellsOf e then some (List.replicate n ks).flatten else none
   | none=>none
  | some (.struct fs)=>fs.toList.foldr (fun f r o=>bif f.offset == o then match kx P k f.type with
   | some a=>bif a.length == P.cellsOf f.type then(r (o+P.cellsOf f.type)).map (a++·) else none
   | none=>none else none) (fun o=>bif o == P.cellsOf t then some [] else none) 0
  | _=>none
def Sh:XK->SV->Prop
 | .i,x=>∃n:Int,x=iv n
 | .b,x=>∃c:Bool,x=.v (.bool c)
 | .s,x=>∃ns:List Int,x=.d (ns.map iv) ns.length 1
 | .t,x=>∃ns:List (Int×Int),x=.d (flat iv2 ns) ns.length 2
def Shs:List XK->List SV->Prop
 | [],[]=>True
 | k::ks,x::xs=>Sh k x/\Shs ks xs
 | _,_=>False
def fzW (w:World):Nat->Option FC:=fun b=>match w.heap[b]? with
 | some (.cells c t f)=>some (c,t,f)
 | _=>none
theorem Shs.app:∀{ks ks':List XK} {xs xs':List SV},Shs ks xs->Shs ks' xs'->Shs (ks++ks') (xs++xs')
 | [],_,[],_,_,h=>h
 | [],_,_::_,_,h,_=>h.elim
 | _::_,_,[],_,h,_=>h.elim
 | _::_,_,_::_,_,⟨h1,h2⟩,h=>⟨h1,Shs.app h2 h⟩
theorem Shs.len:∀{ks:List XK} {xs:List SV},Shs ks xs->xs.length=ks.length
 | [],[],_=>rfl
 | [],_::_,h=>h.elim
 | _::_,[],h=>h.elim
 | _::_,_::_,⟨_,h⟩=>by rw [List.length_cons,List.length_cons,Shs.len h]
theorem cZ {k:XK} {ks:List XK} {xs:List SV} (h:Shs (k::ks) xs):∃x ys,xs=x::ys/\Sh k x/\Shs ks ys:=by
 cases xs with
 | nil=>exact h.elim
 | cons x ys=>exact⟨x,ys,rfl,h.1,h.2⟩
theorem sZ {xs:List SV} (h:Shs [] xs):xs=[]:=by
 cases xs with
 | nil=>rfl
 | cons x ys=>exact h.elim
theorem aId:∀{ks:List XK} {xs:List SV},Shs ks xs->∀k,¬SV.hasl k xs
 | [],[],_,k,h=>by simp [SV.hasl] at h
 | [],_::_,h,_,_=>h.elim
 | _::_,[],h,_,_=>h.elim
 | c::ks,x::xs,⟨h1,h2⟩,k,h=>by
  simp only [SV.hasl] at h
  rcases h with h | h
  ·cases c with
   | i=>obtain⟨n,rfl⟩:=h1;simp [iv,SV.has] at h
   | b=>obtain⟨n,rfl⟩:=h1;simp [SV.has] at h
   | s=>obtain⟨n,rfl⟩:=h1;simp [SV.has] at h
   | t=>obtain⟨n,rfl⟩:=h1;simp [SV.has] at h
  ·exact aId h2 k h
theorem wQ {ρ:Env}:∀{xs ys:List SV} {vs ws:List Value},Rels ρ xs vs->Rels ρ ys ws->Rels ρ (xs++ys) (vs++ws)
 | [],_,[],_,_,h=>h
 | [],_,_::_,_,h,_=>by simp [Rels] at h
 | _::_,_,[],_,h,_=>by simp [Rels] at h
 | _::_,_,_::_,_,h,h2=>⟨h.1,wQ h.2 h2⟩
theorem aCo {ρ:Env}:∀{xs:List SV} {vs:List Value},Rels ρ xs vs->vs.length=xs.length
 | [],[],_=>rfl
 | [],_::_,h=>by simp [Rels] at h
 | _::_,[],h=>by simp [Rels] at h
 | _::_,_::_,h=>by rw [List.length_cons,List.length_cons,aCo h.2]
section
variable {H : Type} {enc : TypeId × Value → H} {P : Program} {w : World}
theorem aIe {ρ:Env}:∀l:List Int,Rels ρ (l.map iv) (l.map (Value.int .i64))
 | []=>trivial
 | n::l=>⟨rfl,aIe l⟩
theorem aAf {a:Addr} {v:Value} (h:w.cell? a=some v):a.spot=none/\∃c t f,w.heap[a.block]? = some (.cells c t f)/\c[a.off]? = some v:=by
 unfold World.cell? at h
 split at h
 ·rename_i c t f hh
  split at h
  ·cases h
  ·rename_i hs
   exact⟨by cases hsp:a.spot with
    | none=>rfl
    | some q=>rw [hsp] at hs;exact absurd rfl hs,c,t,f,hh,h⟩
 ·cases h
theorem aNl {t e:TypeId} {fuel:Nat} {cs:List Value} {x:DataW H×List MemPlace} (ht:P.underlying t=some (.slice e))(he:P.underlying e=some (.int .i64))(hce:P.cellsOf e=1)
 (hx:DataW.trod enc P w 0 (fun _=>true) true fuel t cs=some x):∃xs,Shs [XK.s] xs/\∀ρ:Env,ρ.fz=fzW w->Rels ρ xs cs:=by
 rcases Go.Deep.open_slice ht hx with⟨hc,_⟩ | ⟨a',len',cap',m,n,D,Pl,hc,hb,hl,hm,hmm,_,hall⟩
 ·subst hc
  refine⟨[.d [] 0 1],⟨⟨[],rfl⟩,trivial⟩,fun ρ _=>⟨?_,trivial⟩⟩
  simp only [Rel];exact .inl ⟨trivial,trivial,none,rfl⟩
 ·subst hc
  by_cases hcap:cap'=0
  ·have hl0:len'=0:=by omega
   subst hcap hl0
   refine⟨[.d [] 0 1],⟨⟨[],rfl⟩,trivial⟩,fun ρ _=>⟨?_,trivial⟩⟩
   simp only [Rel];exact .inl ⟨trivial,trivial,some a',rfl⟩
  ·simp only [if_true] at hmm
   have hone:∀i,i < m->∃q:Int,w.cell? (a'.add i)=some (.int .i64 q):=fun i hi=>by
    obtain⟨cs',h1,h2⟩:=hall i hi
    obtain⟨q,hq,_⟩:=DataW.trod_int he h2
    subst hq
    obtain⟨_,hlen,hcell⟩:=World.cells?_some h1
    rw [hce] at hcell
    have:=hcell 0 (by omega)
    refine⟨q,?_⟩
    rw [Nat.mul_one] at this
    simpa [Addr.add] using this
   obtain⟨N,hN⟩:=Go.Deep.choose_lt (α:=Int) (p:=fun i q=>w.cell? (a'.add i)=some (.int .i64 q)) (n:=m) hone
   have h0:=hN 0 (by omega)
   rw [show a'.add 0=a' from rfl] at h0
   obtain⟨hsp,c,ty,fr,hh,_⟩:=aAf h0
   obtain⟨b,o,sp⟩:=a'
   simp only at hsp hh
   subst hsp
   refine⟨[.d (((List.range len').map N).map iv) len' 1],⟨⟨(List.range len').map N,by simp⟩,trivial⟩,fun ρ hρ=>⟨?_,trivial⟩⟩
   simp only [Rel]
   refine .inr ⟨b,o,cap',c,ty,fr,((List.range len').map N).map (Value.int .i64),rfl,hl,by rw [hρ];unfold fzW;rw [hh],aIe _,by simp,fun i x hi=>?_⟩
   have hil:=(List.getElem?_eq_some_iff.1 hi).1
   simp only [List.length_map,List.length_range] at hil
   rw [List.getElem?_map,List.getElem?_map,List.getElem?_range hil] at hi
   have:=hN i (by omega)
   rw [Go.Aw.add_eq] at this
   obtain⟨_,c2,t2,f2,g1,g2⟩:=aAf this
   simp only at g1 g2
   rw [hh] at g1
   cases g1
   rw [g2];exact hi
def pV:List (Int×Int)->List Value
 | []=>[]
 | p::l=>.int .i64 p.1::.int .i64 p.2::pV l
theorem aQr:∀l:List (Int×Int),(pV l).length=l.length*2
 | []=>rfl
 | p::l=>by simp only [pV,List.length_cons,aQr l];omega
theorem aMh {ρ:Env}:∀l:List (Int×Int),Rels ρ (flat iv2 l) (pV l)
 | []=>trivial
 | p::l=>⟨rfl,rfl,aMh l⟩
theorem aQs {c:Array Value}:∀(l:List (Int×Int)) (o:Nat),(∀(j:Nat) (p:Int×Int),l[j]? = some p->c[o+2*j]? = some (.int .i64 p.1)/\c[o+2*j+1]? = some (.int .i64 p.2))->∀(i:Nat) (x:Value),(pV l)[i]? = some x->c[o+i]? = some x
 | [],_,_,i,x,h=>by simp [pV] at h
 | p::l,o,hc,0,x,h=>by simp [pV] at h;rw [←h];exact(hc 0 p rfl).1
 | p::l,o,hc,1,x,h=>by simp [pV] at h;rw [←h];exact(hc 0 p rfl).2
 | p::l,o,hc,i+2,x,h=>by
  have:=aQs l (o+2) (fun j q hj=>by
   have:=hc (j+1) q (by simpa using hj)
   rw [show o+2+2*j=o+2*(j+1) by omega];exact this) i x (by simpa [pV] using h)
  rw [show o+(i+2)=o+2+i by omega];exact this
theorem aKd {t e:TypeId} {fuel:Nat} {cs:List Value} {x:DataW H×List MemPlace} (ht:P.underlying t=some (.slice e))(hce:P.cellsOf e=2)
 (hk:∀(f:Nat) (cs:List Value) (x:DataW H×List MemPlace),DataW.trod enc P w 0 (fun _=>true) true f e cs=some x->∃a b:Int,cs=[.int .i64 a,.int .i64 b])
 (hx:DataW.trod enc P w 0 (fun _=>true) true fuel t cs=some x):∃xs,Shs [XK.t] xs/\∀ρ:Env,ρ.fz=fzW w->Rels ρ xs cs:=by
 rcases Go.Deep.open_slice ht hx with⟨hc,_⟩ | ⟨a',len',cap',m,n,D,Pl,hc,hb,hl,hm,hmm,_,hall⟩
 ·subst hc
  refine⟨[.d [] 0 2],⟨⟨[],rfl⟩,trivial⟩,fun ρ _=>⟨?_,trivial⟩⟩
  simp only [Rel];exact .inl ⟨trivial,trivial,none,rfl⟩
 ·subst hc
  by_cases hcap:cap'=0
  ·have hl0:len'=0:=by omega
   subst hcap hl0
   refine⟨[.d [] 0 2],⟨⟨[],rfl⟩,trivial⟩,fun ρ _=>⟨?_,trivial⟩⟩
   simp only [Rel];exact .inl ⟨trivial,trivial,some a',rfl⟩
  ·simp only [if_true] at hmm
   have hone:∀i,i < m->∃q:Int×Int,w.cell? (a'.add (i*2))=some (.int .i64 q.1)/\w.cell? (a'.add (i*2+1))=some (.int .i64 q.2):=fun i hi=>by
    obtain⟨cs',h1,h2⟩:=hall i hi
    obtain⟨qq1,qq2,hq⟩:=hk _ _ _ h2
    subst hq
    obtain⟨_,hlen,hcell⟩:=World.cells?_some h1
    rw [hce] at hcell
    have g0:=hcell 0 (by omega)
    have g1:=hcell 1 (by omega)
    have e1:(a'.add (i*2)).add 1=a'.add (i*2+1):=by
     by_cases hi0:i=0
     ·subst hi0;rfl
     ·have h2:¬i*2=0:=by omega
      simp [Addr.add,h2,Nat.add_assoc]
    rw [e1] at g1
    exact⟨(qq1,qq2),by simpa [Addr.add] using g0,by simpa using g1⟩
   obtain⟨N,hN⟩:=Go.Deep.choose_lt (α:=Int×Int) (p:=fun i q=>w.cell? (a'.add (i*2))=some (.int .i64 q.1)/\w.cell? (a'.add (i*2+1))=some (.int .i64 q.2)) (n:=m) hone
   have h0:=(hN 0 (by omega)).1
   rw [show a'.add (0*2)=a' from rfl] at h0
   obtain⟨hsp,c,ty,fr,hh,_⟩:=aAf h0
   obtain⟨b,o,sp⟩:=a'
   simp only at hsp hh
   subst hsp
   have hcell:∀(z:Nat) (v:Value),w.cell? ((⟨b,o,none⟩:Addr).add z)=some v->c[o+z]? = some v:=fun z v hv=>by
    rw [Go.Aw.add_eq] at hv
    obtain⟨_,c2,t2,f2,g1,g2⟩:=aAf hv
    simp only at g1 g2
    rw [hh] at g1
    cases g1
    exact g2
   refine⟨[.d (flat iv2 ((List.range len').map N)) len' 2],⟨⟨(List.range len').map N,by simp⟩,trivial⟩,fun ρ hρ=>⟨?_,trivial⟩⟩
   simp only [Rel]
   refine .inr ⟨b,o,cap',c,ty,fr,pV ((List.range len').map N),rfl,hl,by rw [hρ];unfold fzW;rw [hh],aMh _,by rw [aQr];simp,aQs _ o (fun j p hj=>?_)⟩
   have hjl:=(List.getElem?_eq_some_iff.1 hj).1
   simp only [List.length_map,List.length_range] at hjl
   rw [List.getElem?_map,List.getElem?_range hjl] at hj
   simp only [Option.map_some,bG] at hj
   subst hj
   obtain⟨g1,g2⟩:=hN j (by omega)
   exact⟨by rw [show 2*j=j*2 by omega];exact hcell _ _ g1,by rw [show o+2*j+1=o+(j*2+1) by omega];exact hcell _ _ g2⟩
theorem aNm {ρ:Env} {xs:List SV} {cs:List Value} (h:Shs [XK.i,XK.i] xs)(hr:Rels ρ xs cs):∃a b:Int,cs=[.int .i64 a,.int .i64 b]:=by
 obtain⟨x0,y0,rfl,⟨n0,rfl⟩,h0⟩:=cZ h
 obtain⟨x1,y1,rfl,⟨n1,rfl⟩,h1⟩:=cZ h0
 obtain rfl:=sZ h1
 match cs,hr with
 | [c0,c1],hr =>
  simp only [Rels,Rel,iv] at hr
  exact⟨n0,n1,by rw [hr.1,hr.2.1]⟩
 | [],hr=>simp [Rels] at hr
 | [_],hr=>simp [Rels] at hr
 | _::_::_::_,hr=>simp [Rels] at hr
theorem aAg:∀(k:Nat) (t:TypeId) (ks:List XK) (fuel:Nat) (cs:List Value) (x:DataW H×List MemPlace),kx P k t=some ks ->
 DataW.trod enc P w 0 (fun _=>true) true fuel t cs=some x->∃xs,Shs ks xs/\∀ρ:Env,ρ.fz=fzW w->Rels ρ xs cs
 | 0,_,_,_,_,_,h,_=>by simp [kx] at h
 | k+1,t,ks,fuel,cs,x,h,hx=>by
  unfold kx at h
  split at h
  ·rename_i ht
   obtain⟨n,rfl,rfl,_⟩:=DataW.trod_int ht hx
   obtain rfl:[XK.i]=ks:=Option.some.inj h
   exact⟨[iv n],⟨⟨n,rfl⟩,trivial⟩,fun ρ _=>⟨rfl,trivial⟩⟩
  ·rename_i ht
   obtain⟨n,rfl,rfl⟩:=DataW.trod_bool ht hx
   obtain rfl:[XK.b]=ks:=Option.some.inj h
   exact⟨[.v (.bool n)],⟨⟨n,rfl⟩,trivial⟩,fun ρ _=>⟨rfl,trivial⟩⟩
  ·rename_i e ht
   split at h
   ·rename_i he
    cases hce:P.cellsOf e == 1 with
    | false=>rw [hce] at h;cases h
    | true =>
     rw [hce] at h
     obtain rfl:[XK.s]=ks:=Option.some.inj h
     exact aNl ht he (beq_iff_eq.1 hce) hx
   ·split at h
    ·rename_i hke
     cases hce:P.cellsOf e == 2 with
     | false=>rw [hce] at h;cases h
     | true =>
      rw [hce] at h
      obtain rfl:[XK.t]=ks:=Option.some.inj h
      refine aKd ht (beq_iff_eq.1 hce) (fun f cs x hx=>?_) hx
      obtain⟨xs,h4,h5⟩:=aAg k e _ f cs x hke hx
      exact aNm h4 (h5 ⟨fun _=>none,fzW w⟩ rfl)
    ·cases h
  ·rename_i n e ht
   split at h
   ·rename_i ke hke
    cases hc:ke.length == P.cellsOf e&&P.cellsOf t == n*P.cellsOf e with
    | false=>rw [hc] at h;cases h
    | true =>
     rw [hc] at h
     obtain rfl:(List.replicate n ke).flatten=ks:=Option.some.inj h
     simp only [Bool.and_eq_true,beq_iff_eq] at hc
     obtain⟨xs,m,rfl,rfl,hl,hlen,hf⟩:=DataW.trod_array ht hx
     have key:∀j,j<=n->∃ys,Shs (List.replicate j ke).flatten ys/\∀ρ:Env,ρ.fz=fzW w->Rels ρ ys (cs.drop ((n - j)*P.cellsOf e)):=by
      intro j
      induction j with
      | zero=>intro _;exact⟨[],trivial,fun ρ _=>by rw [Nat.sub_zero,←hc.2,←hl,List.drop_length];trivial⟩
      | succ j ih =>
       intro hj
       obtain⟨ys,h2,h3⟩:=ih (by omega)
       have h1:=hf (n - (j+1)) (by omega)
       have hil:n - (j+1) < xs.length:=by rw [hlen];omega
       rw [List.getElem?_eq_getElem hil] at h1
       obtain⟨zs,h4,h5⟩:=aAg k e ke m _ _ hke h1
       refine⟨zs++ys,by rw [List.replicate_succ,List.flatten_cons];exact h4.app h2,fun ρ hρ=>?_⟩
       have:=wQ (h5 ρ hρ) (h3 ρ hρ)
       rwa [show(n - j)*P.cellsOf e=(n - (j+1))*P.cellsOf e+P.cellsOf e by rw [show n - j=(n - (j+1))+1 by omega,Nat.add_mul,Nat.one_mul],←List.drop_drop,List.take_append_drop] at this
     obtain⟨ys,h1,h2⟩:=key n (Nat.le_refl _)
     exact⟨ys,h1,fun ρ hρ=>by simpa using h2 ρ hρ⟩
   ·cases h
  ·rename_i fs ht
   obtain⟨xs,m,rfl,rfl,hl,hlen,hF⟩:=DataW.trod_struct ht hx
   have key:∀(l:List Field) (o:Nat) (ks:List XK),
    l.foldr (fun f r o=>bif f.offset == o then match kx P k f.type with
     | some a=>bif a.length == P.cellsOf f.type then(r (o+P.cellsOf f.type)).map (a++·) else none
     | none=>none else none) (fun o=>bif o == P.cellsOf t then some [] else none) o=some ks ->
    (∀f∈l,∃y,DataW.trod enc P w 0 (fun _=>true) true m f.type ((cs.drop f.offset).take (P.cellsOf f.type))=some y)->∃xs,Shs ks xs/\∀ρ:Env,ρ.fz=fzW w->Rels ρ xs (cs.drop o):=by
    intro l
    induction l with
    | nil =>
     intro o ks h _
     simp only [List.foldr_nil] at h
     cases ho:o == P.cellsOf t with
     | false=>rw [ho] at h;cases h
     | true =>
      rw [ho] at h
      obtain rfl:[]=ks:=Option.some.inj h
      refine⟨[],trivial,fun ρ _=>?_⟩
      rw [beq_iff_eq.1 ho,←hl,List.drop_length];trivial
    | cons f l ih =>
     intro o ks h hy
     simp only [List.foldr_cons] at h
     cases ho:f.offset == o with
     | false=>rw [ho] at h;cases h
     | true =>
      rw [ho] at h
      simp only [cond_true] at h
      split at h
      ·rename_i a ha
       cases hc:a.length == P.cellsOf f.type with
       | false=>rw [hc] at h;cases h
       | true =>
        rw [hc] at h
        simp only [cond_true,Option.map_eq_some_iff] at h
        obtain⟨ks',h1,rfl⟩:=h
        obtain⟨y,hy0⟩:=hy f List.mem_cons_self
        rw [beq_iff_eq.1 ho] at hy0
        obtain⟨gz1,g1,r1⟩:=aAg k f.type a m _ y ha hy0
        obtain⟨gz2,g2,r2⟩:=ih _ _ h1 (fun f' hf'=>hy f' (List.mem_cons_of_mem _ hf'))
        refine⟨gz1++gz2,g1.app g2,fun ρ hρ=>?_⟩
        have:=wQ (r1 ρ hρ) (r2 ρ hρ)
        rwa [←List.drop_drop,List.take_append_drop] at this
      ·cases h
   obtain⟨ys,h1,h2⟩:=key fs.toList 0 ks h (fun f hf=>by
    obtain⟨i,hi⟩:=List.getElem?_of_mem hf
    have:=hF i f (by simpa using hi)
    have hil:i < xs.length:=by rw [hlen];have:=(List.getElem?_eq_some_iff.1 hi).1;simpa using this
    rw [List.getElem?_eq_getElem hil] at this
    exact⟨_,this⟩)
   exact⟨ys,h1,fun ρ hρ=>by simpa using h2 ρ hρ⟩
  ·cases h
def yO (w:World)(ks:List XK)(v:Value)(xss:List (List SV)):Prop :=
 (∀xs∈xss,Shs ks xs)/\xss.length<=2^63-1 /\
 ((v=.slice none 0 0/\xss=[])\/∃b o cap vs,v=.slice (some ⟨b,o,none⟩) xss.length cap/\xss.length<=cap/\(∀ρ:Env,ρ.fz=fzW w->Rels ρ xss.flatten vs)/\∀(i:Nat) (x:Value),vs[i]? = some x->w.cell? ⟨b,o+i,none⟩=some x)
theorem zJ {es b:Nat}:∀(vss:List (List Value)) (o:Nat),(∀(j:Nat) (ns:List Value),vss[j]? = some ns->ns.length=es/\∀(q:Nat) (x:Value),ns[q]? = some x->w.cell? ⟨b,o+j*es+q,none⟩=some x) ->
 ∀(i:Nat) (x:Value),(vss.flatten)[i]? = some x->w.cell? ⟨b,o+i,none⟩=some x
 | [],o,_,i,x,hi=>by simp at hi
 | ns::l,o,h,i,x,hi=>by
  obtain⟨h1,h2⟩:=h 0 ns rfl
  rw [List.flatten_cons] at hi
  by_cases hlt:i < ns.length
  ·rw [List.getElem?_append_left hlt] at hi
   have:=h2 i x hi
   simpa using this
  ·rw [List.getElem?_append_right (by omega)] at hi
   have:=zJ l (o+es) (fun j ms hj=>⟨(h (j+1) ms hj).1,fun q y hq=>by
    have:=(h (j+1) ms hj).2 q y hq
    rw [show o+es+j*es+q=o+(j+1)*es+q by rw [Nat.add_mul];omega];exact this⟩) (i - es) x (by simpa [h1] using hi)
   rw [show o+es+(i - es)=o+i by omega] at this;exact this
theorem aTq {ρ:Env}:∀{xss:List (List SV)} {vss:List (List Value)},xss.length=vss.length->(∀(j:Nat) (xs:List SV) (vs:List Value),xss[j]? = some xs->vss[j]? = some vs->Rels ρ xs vs)->Rels ρ xss.flatten vss.flatten
 | [],[],_,_=>trivial
 | [],_::_,h,_=>by simp at h
 | _::_,[],h,_=>by simp at h
 | _::_,_::_,h,h2=>by
  rw [List.flatten_cons,List.flatten_cons]
  exact wQ (h2 0 _ _ rfl rfl) (aTq (by simpa using h) (fun j xs vs h3 h4=>h2 (j+1) xs vs h3 h4))
theorem zK {t e:TypeId} {ks:List XK} {v:Value} {fuel:Nat} {x:DataW H×List MemPlace} (ht:P.underlying t=some (.slice e))(hk:kx P 6 e=some ks)(hes:P.cellsOf e=ks.length)
 (hsp:∀a len cap,v=.slice (some a) len cap->a.spot=none) (hx:DataW.trod enc P w 0 (fun _=>true) true fuel t [v]=some x):∃xss,yO w ks v xss:=by
 rcases Go.Deep.open_slice ht hx with⟨hc,_⟩ | ⟨a',len',cap',m,n,D,Pl,hc,hb,hl,hm,hmm,_,hall⟩
 ·simp only [List.cons.injEq,and_true] at hc
  exact⟨[],fun ns h=>by simp at h,by simp,.inl ⟨hc,rfl⟩⟩
 ·simp only [List.cons.injEq,and_true] at hc
  subst hc
  have hsp:=hsp a' len' cap' rfl
  obtain⟨b,o,sp⟩:=a'
  simp only at hsp
  subst hsp
  simp only [if_true] at hmm
  obtain⟨N,hN⟩:=Go.Deep.choose_lt (α:=List SV×List Value) (p:=fun i q=>Shs ks q.1/\(∀ρ:Env,ρ.fz=fzW w->Rels ρ q.1 q.2)/\∀(j:Nat) (x:Value),q.2[j]? = some x->w.cell? ⟨b,o+i*ks.length+j,none⟩=some x) (n:=len') (fun i hi=>by
   obtain⟨cs',h1,h2⟩:=hall i (by omega)
   obtain⟨xs,g1,g2⟩:=aAg 6 e ks n cs' _ hk h2
   obtain⟨_,hlen,hcell⟩:=World.cells?_some h1
   rw [hes] at hlen hcell
   refine⟨(xs,cs'),g1,g2,fun q x hq=>?_⟩
   have hq':=(List.getElem?_eq_some_iff.1 hq).1
   have:=hcell q (by rw [←hlen];exact hq')
   rw [Go.Aw.add_eq,Go.Aw.add_eq] at this
   rw [this,hq])
  refine⟨(List.range len').map fun i=>(N i).1,fun ns h=>?_,?_,.inr ⟨b,o,cap',((List.range len').map fun i=>(N i).2).flatten,?_,?_,fun ρ hρ=>?_,?_⟩⟩
  ·obtain⟨i,hi,rfl⟩:=List.mem_map.1 h
   exact(hN i (by simpa using hi)).1
  ·have:maxLen=9223372036854775807:=rfl
   simp;omega
  ·simp
  ·simpa using hl
  ·refine aTq (by simp) (fun j xs vs h1 h2=>?_)
   have hj:=(List.getElem?_eq_some_iff.1 h1).1
   simp only [List.length_map,List.length_range] at hj
   rw [List.getElem?_map,List.getElem?_range hj] at h1 h2
   cases h1;cases h2
   exact(hN j hj).2.1 ρ hρ
  ·refine zJ (es:=ks.length) _ o (fun j ns hj=>?_)
   have hjl:=(List.getElem?_eq_some_iff.1 hj).1
   simp only [List.length_map,List.length_range] at hjl
   rw [List.getElem?_map,List.getElem?_range hjl] at hj
   cases hj
   have:=hN j hjl
   exact⟨by rw [aCo (this.2.1 ⟨fun _=>none,fzW w⟩ rfl),Shs.len this.1],this.2.2⟩
theorem aKe {r:Reach} {b0:Nat} {t e:TypeId} {v:Value} {d:DataW H} {ps:List MemPlace} (ks:List XK)(ht:P.underlying t=some (.slice e))(hk:kx P 6 e=some ks)(hes:P.cellsOf e=ks.length)
 (hval:Value.okWide P w r b0 t v) (hd:DataW.Trod enc P w 0 (fun _=>true) true t v d ps):(∃xss,yO w ks v xss)/\∀x∈ps,x.block < w.heap.size:=by
 obtain⟨fuel,hx⟩:=hd
 refine⟨?_,DataW.trod_lt fuel t _ _ hx⟩
 obtain⟨a,len,cap,rfl⟩:=okWide_slice ht hval
 refine zK ht hk hes (fun a' len' cap' h=>?_) (by simpa [Value.cells] using hx)
 simp only [Value.slice.injEq] at h
 obtain⟨rfl,rfl,rfl⟩:=h
 simp only [Value.okWide,ht,Cell.okWide,Cell.ok,World.has] at hval
 exact hval.2.2.2.1
theorem nT {ks:List XK} {es:Nat} {v:Value} {xss:List (List SV)} {ρ:Env} {k:Nat} (h:yO w ks v xss)(hes:ks.length=es)(hk:ρ k=rho es v):Rel ρ (.s k 0 xss.length es) v:=by
 subst hes
 obtain⟨h1,h2,⟨rfl,rfl⟩ | ⟨b,o,cap,vs,rfl,h3,h4⟩⟩:=h
 ·simp only [Rel];exact .inl ⟨hk,rfl,trivial⟩
 ·simp only [Rel];exact .inr ⟨b,o,cap*ks.length,cap,0,none,hk,rfl,h3,by omega,fun _=>⟨rfl,rfl⟩⟩
theorem wR {ks:List XK}:∀{xss:List (List SV)},(∀xs∈xss,Shs ks xs)->xss.flatten.length=xss.length*ks.length
 | [],_=>by simp
 | xs::l,h=>by
  rw [List.flatten_cons,List.length_append,wR (fun m hm=>h m (List.mem_cons_of_mem _ hm)),Shs.len (h xs List.mem_cons_self),List.length_cons,Nat.add_mul];omega
theorem aIf {ks:List XK} {es:Nat} {v:Value} {xss:List (List SV)} {ρ:Env} {k:Nat} {M:Nat->Prop} (h:yO w ks v xss)(hes:ks.length=es)(hk:ρ k=rho es v)(hf:ρ.fz=fzW w)(hM:∀b,M b->w.heap.size<=b):BRep ρ M w k (.live false true xss.flatten):=by
 subst hes
 obtain⟨h1,h2,⟨rfl,rfl⟩ | ⟨b,o,cap,vs,rfl,h3,h4,h5⟩⟩:=h
 ·exact .inl ⟨hk,rfl⟩
 ·have hlen:=wR h1
  refine .inr ⟨b,o,cap*ks.length,vs,hk,⟨?_,fun hne hm=>?_⟩,h4 ρ hf,h5⟩
  ·rw [aCo (h4 ρ hf),hlen];exact Nat.mul_le_mul_right _ h3
  ·have hb:=hM b hm
   obtain⟨x,hx⟩:=List.exists_mem_of_ne_nil _ hne
   obtain⟨i,hi⟩:=List.getElem?_of_mem hx
   have:=World.block_lt_of_cell? w ⟨b,o+i,none⟩ (h5 i x hi)
   exact absurd this (Nat.not_lt_of_le hb)
theorem aQt {ks:List XK}:∀{xss:List (List SV)},(∀xs∈xss,Shs ks xs)->Plain xss.flatten
 | [],_,k,hk=>by simp [SV.hasl] at hk
 | xs::l,h,k,hk=>by
  rw [List.flatten_cons,eJ] at hk
  obtain⟨x,hx,hk⟩:=hk
  rcases List.mem_append.1 hx with hx | hx
  ·exact aId (h xs List.mem_cons_self) k (eJ.2 ⟨x,hx,hk⟩)
  ·exact aQt (xss:=l) (fun m hm=>h m (List.mem_cons_of_mem _ hm)) k (eJ.2 ⟨x,hx,hk⟩)
theorem pU {α:Type} {c:α->List SV} {f:List SV->α} {ks:List XK} (hc:∀xs:List SV,Shs ks xs->c (f xs)=xs):∀{xss:List (List SV)},(∀xs∈xss,Shs ks xs)->flat c (xss.map f)=xss.flatten
 | [],_=>rfl
 | xs::l,h=>by
  have:=pU hc (xss:=l) (fun m hm=>h m (List.mem_cons_of_mem _ hm))
  unfold flat at *
  rw [List.map_cons,List.flatMap_cons,this,hc xs (h xs List.mem_cons_self),List.flatten_cons]
end
inductive AK where
 | i | b | s (ks:List XK)
def aTr (w:World):AK->Value->Prop
 | .i,v=>∃n:Int,v=.int .i64 n
 | .b,v=>∃x:Bool,v=.bool x
 | .s ks,v=>∃xss,yO w ks v xss
def CellsX (w:World):List AK->List Value->Prop
 | [],[]=>True
 | k::ks,v::vs=>aTr w k v/\CellsX w ks vs
 | _,_=>False
def ka (P:Program):Nat->TypeId->Option (List AK)
 | 0,_=>none
 | k+1,t=>match P.underlying t with
  | some (.int .i64)=>some [.i]
  | some .bool=>some [.b]
  | some (.slice e)=>match kx P 6 e with
   | some ks=>bif P.cellsOf e == ks.length then some [.s ks] else none
   | none=>none
  | some (.struct fs)=>fs.toList.foldr (fun f r o=>bif f.offset == o then match ka P k f.type with
   | some a=>bif a.length == P.cellsOf f.type then(r (o+P.cellsOf f.type)).map (a++·) else none
   | none=>none else none) (fun o=>bif o == P.cellsOf t then some [] else none) 0
  | _=>none
section
variable {H : Type} {enc : TypeId × Value → H} {P : Program} {w : World}
theorem CellsX.app:∀{ks ks':List AK} {vs vs':List Value},CellsX w ks vs->CellsX w ks' vs'->CellsX w (ks++ks') (vs++vs')
 | [],_,[],_,_,h=>h
 | [],_,_::_,_,h,_=>h.elim
 | _::_,_,[],_,h,_=>h.elim
 | _::_,_,_::_,_,⟨h1,h2⟩,h=>⟨h1,CellsX.app h2 h⟩
theorem aMi:∀(k:Nat) (t:TypeId) (ks:List AK) (fuel:Nat) (cs:List Value) (x:DataW H×List MemPlace),ka P k t=some ks ->
 (∀v∈cs,∀a len cap,v=.slice (some a) len cap->a.spot=none)->DataW.trod enc P w 0 (fun _=>true) true fuel t cs=some x->CellsX w ks cs
 | 0,_,_,_,_,_,h,_,_=>by simp [ka] at h
 | k+1,t,ks,fuel,cs,x,h,hsp,hx=>by
  unfold ka at h
  split at h
  ·rename_i ht
   obtain⟨n,rfl,rfl,_⟩:=DataW.trod_int ht hx
   obtain rfl:[AK.i]=ks:=Option.some.inj h
   exact⟨⟨n,rfl⟩,trivial⟩
  ·rename_i ht
   obtain⟨n,rfl,rfl⟩:=DataW.trod_bool ht hx
   obtain rfl:[AK.b]=ks:=Option.some.inj h
   exact⟨⟨n,rfl⟩,trivial⟩
  ·rename_i e ht
   split at h
   ·rename_i ke hke
    cases hf:P.cellsOf e == ke.length with
    | false=>rw [hf] at h;cases h
    | true =>
     rw [hf] at h
     obtain rfl:[AK.s ke]=ks:=Option.some.inj h
     have:∃v,cs=[v]:=by
      rcases Go.Deep.open_slice ht hx with⟨hc,_⟩ | ⟨a',len',cap',m,n,D,Pl,hc,_⟩<;>exact⟨_,hc⟩
     obtain⟨v,rfl⟩:=this
     exact⟨zK ht hke (beq_iff_eq.1 hf) (hsp v List.mem_cons_self) hx,trivial⟩
   ·cases h
  ·rename_i fs ht
   obtain⟨xs,m,rfl,rfl,hl,hlen,hF⟩:=DataW.trod_struct ht hx
   have key:∀(l:List Field) (o:Nat) (ks:List AK),
    l.foldr (fun f r o=>bif f.offset == o then match ka P k f.type with
     | some a=>bif a.length == P.cellsOf f.type then(r (o+P.cellsOf f.type)).map (a++·) else none
     | none=>none else none) (fun o=>bif o == P.cellsOf t then some [] else none) o=some ks ->
    (∀f∈l,∃y,DataW.trod enc P w 0 (fun _=>true) true m f.type ((cs.drop f.offset).take (P.cellsOf f.type))=some y)->CellsX w ks (cs.drop o):=by
    intro l
    induction l with
    | nil =>
     intro o ks h _
     simp only [List.foldr_nil] at h
     cases ho:o == P.cellsOf t with
     | false=>rw [ho] at h;cases h
     | true =>
      rw [ho] at h
      obtain rfl:[]=ks:=Option.some.inj h
      rw [beq_iff_eq.1 ho,←hl,List.drop_length];trivial
    | cons f l ih =>
     intro o ks h hy
     simp only [List.foldr_cons] at h
     cases ho:f.offset == o with
     | false=>rw [ho] at h;cases h
     | true =>
      rw [ho] at h
      simp only [cond_true] at h
      split at h
      ·rename_i a ha
       cases hc:a.length == P.cellsOf f.type with
       | false=>rw [hc] at h;cases h
       | true =>
        rw [hc] at h
        simp only [cond_true,Option.map_eq_some_iff] at h
        obtain⟨ks',h1,rfl⟩:=h
        obtain⟨y,hy0⟩:=hy f List.mem_cons_self
        rw [beq_iff_eq.1 ho] at hy0
        have g1:=aMi k f.type a m _ y ha (fun v hv=>hsp v (List.mem_of_mem_drop (List.mem_of_mem_take hv))) hy0
        have g2:=ih _ _ h1 (fun f' hf'=>hy f' (List.mem_cons_of_mem _ hf'))
        have:=g1.app g2
        rwa [←List.drop_drop,List.take_append_drop] at this
      ·cases h
   have:=key fs.toList 0 ks h (fun f hf=>by
    obtain⟨i,hi⟩:=List.getElem?_of_mem hf
    have:=hF i f (by simpa using hi)
    have hil:i < xs.length:=by rw [hlen];have:=(List.getElem?_eq_some_iff.1 hi).1;simpa using this
    rw [List.getElem?_eq_getElem hil] at this
    exact⟨_,this⟩)
   simpa using this
  ·cases h
theorem aKf {r:Reach} {b0:Nat} {u:TypeId} {a:Addr} {len cap:Nat} (h:Cell.okWide P w r b0 u (.slice (some a) len cap)):a.spot=none:=by
 unfold Cell.okWide at h
 split at h<;>try (exact h.elim)
 all_goals try (simp_all;done)
 unfold Cell.ok at h
 split at h<;>simp_all [World.has]
theorem aIg {r:Reach} {b0:Nat} {t:TypeId} {fs:Array Field} {v:Value} {d:DataW H} {ps:List MemPlace} (ks:List AK)(ht:P.underlying t=some (.struct fs))(hk:ka P 6 t=some ks)
 (hval:Value.okWide P w r b0 t v) (hd:DataW.Trod enc P w 0 (fun _=>true) true t v d ps):(∃cs,v=.agg cs.toArray/\CellsX w ks cs)/\∀x∈ps,x.block < w.heap.size:=by
 obtain⟨fuel,hx⟩:=hd
 refine⟨?_,DataW.trod_lt fuel t _ _ hx⟩
 simp only [Value.okWide,ht] at hval
 obtain⟨cs,rfl,hs,ts,_,_,hall⟩:=hval
 refine⟨cs.toList,by simp,aMi 6 t ks fuel _ _ hk (fun v hv a len cap e=>?_) (by simpa [Value.cells] using hx)⟩
 obtain⟨i,hi⟩:=List.getElem?_of_mem hv
 obtain⟨u,_,hu⟩:=hall i v (by simpa using hi)
 subst e
 exact aKf hu
theorem oJ {k:AK} {ks:List AK} {cs:List Value} (h:CellsX w (k::ks) cs):∃v vs,cs=v::vs/\aTr w k v/\CellsX w ks vs:=by
 cases cs with
 | nil=>exact h.elim
 | cons v vs=>exact⟨v,vs,rfl,h.1,h.2⟩
theorem aKg {cs:List Value} (h:CellsX w [] cs):cs=[]:=by
 cases cs with
 | nil=>rfl
 | cons v vs=>exact h.elim
end
def svI:SV->Int
 | .v (.int _ n)=>n
 | _=>0
def aGd:List SV->List (Int×Int)
 | x::y::l=>(svI x,svI y)::aGd l
 | _=>[]
def svT:SV->List (Int×Int)
 | .d cs _ _=>aGd cs
 | _=>[]
theorem aTs:∀(ns:List (Int×Int)) (n es:Nat),svT (.d (flat iv2 ns) n es)=ns
 | [],_,_=>rfl
 | p::ns,n,es=>by
  have:=aTs ns n es
  show(p.1,p.2)::aGd (flat iv2 ns)=p::ns
  rw [show aGd (flat iv2 ns)=ns from this]
theorem aIh {c:Int×Int->List SV} (hc:∀p,c p=iv2 p):∀ns:List (Int×Int),flat c ns=flat iv2 ns
 | []=>rfl
 | p::ns=>by rw [jW,hc,aIh hc ns];rfl
def svB:SV->Bool
 | .v (.bool c)=>c
 | _=>false
def aSz (W:World)(l:List (List XK×Nat×Value×List (List SV))):Env:=⟨fun k=>match l[k]? with
 | some x=>rho x.2.1 x.2.2.1
 | none=>none,fzW W⟩
theorem aKh {P:Program} {f:Nat} {args:List SV} {vs:List Value} {x:Value} {W:World} (l:List (List XK×Nat×Value×List (List SV)))
 (hc:Con P f args (l.map fun y=>.live false true y.2.2.2.flatten) (.v x) []) (hs:∀y∈l,yO W y.1 y.2.2.1 y.2.2.2/\y.1.length=y.2.1) (hr:Rels (aSz W l) args vs) :
 Calls P f vs.toArray W fun e W'=>e=.returned x/\Below W.heap.size W W':=by
 have hget:∀i,((l.map fun y=>BK.live false true y.2.2.2.flatten).getD i .un=.un)\/∃y,l[i]? = some y/\(l.map fun y=>BK.live false true y.2.2.2.flatten).getD i .un=.live false true y.2.2.2.flatten:=by
  intro i
  rw [fV,List.getElem?_map]
  cases h:l[i]? with
  | none=>exact .inl rfl
  | some y=>exact .inr ⟨y,rfl,rfl⟩
 have hown:∀i,¬((l.map fun y=>BK.live false true y.2.2.2.flatten).getD i .un).own:=fun i=>by
  rcases hget i with h | ⟨y,_,h⟩<;>rw [h]<;>simp [BK.own]
 have hM:∀b,(dO (aSz W l) W (l.map fun y=>BK.live false true y.2.2.2.flatten)).mine b->W.heap.size<=b:=by
  rintro b (h | ⟨i,n,hi,_⟩)
  ·exact h
  ·exact absurd hi (hown i)
 refine(hc.2 (aSz W l) W vs hr (fun i=>?_) (fun i=>?_) (fun i j b n b' n' _ h=>absurd h (hown i)) (fun b o h=>⟨?_,fun i n hi=>absurd hi (hown i)⟩)).mono fun e W' h=>?_
 ·rcases hget i with h | ⟨y,h1,h⟩
  ·rw [h];simp [BRep]
  ·rw [h]
   exact aIf (hs y (List.mem_of_getElem? h1)).1 (hs y (List.mem_of_getElem? h1)).2 (by simp only [aSz,h1]) rfl hM
 ·rcases hget i with h | ⟨y,h1,h⟩
  ·rw [h];simp [BK.pl]
  ·rw [h];exact aQt (hs y (List.mem_of_getElem? h1)).1.1
 ·have h2:fzW W b=some o:=h
  unfold fzW at h2
  split at h2
  ·rename_i c t fr e
   cases h2
   exact e
  ·cases h2
 ·obtain⟨ρ',v,rfl,_,hv,hk,_⟩:=h
  refine⟨by rw [show v=x from hv],hk.os,hk.tape,hk.output,hk.size,fun k hk'=>hk.block k hk' ?_⟩
  rintro ⟨i,n,hi,_⟩
  exact hown i hi
end Go.Proofs.YtkdfcbmcgnaicaaGreat
