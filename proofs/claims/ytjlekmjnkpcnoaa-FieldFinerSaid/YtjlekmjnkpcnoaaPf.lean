/-
  FieldFiner: for every panel, point and depth the law returns true, and its argument reads behind the call as it read before. No condition.
-/
import Derived.Test.YtjlekmjnkpcnoaaMl
import Derived.ProofKit
namespace Go.Proofs.Ytjlekmjnkpcnoaa
open Go.Proofs Go.Aw Go.RowKit
set_option maxRecDepth 100000
set_option linter.unusedVariables false
set_option linter.unusedSimpArgs false

/-- facet/facetlaw03.FieldFiner -/
def F7 (a0 : ((Int × Int × Int) × (Int × Int × Int) × Int × Int × Int) × (Int × Int × Int) × Int) : Bool :=
  (bif (((F19 a0.1 a0.2.1 a0.2.2).2 : Int) == 0) then
   (bif (((F19 a0.1 a0.2.1 (W (a0.2.2 + 1))).2 : Int) != 1) then
    (bif (((F19 a0.1 a0.2.1 (W (a0.2.2 + 1))).2 : Int) != 0) then
     false
    else
     (bif (((F25 (F19 a0.1 a0.2.1 (W (a0.2.2 + 1))).1 (F19 a0.1 a0.2.1 a0.2.2).1).2 : Int) != 0) then
      false
     else
      (bif (!(F25 (F19 a0.1 a0.2.1 (W (a0.2.2 + 1))).1 (F19 a0.1 a0.2.1 a0.2.2).1).1) then
       false
      else
       (bif (((F21 a0.1 a0.2.1 a0.2.2).2 : Int) == 0) then
        (bif (((F21 a0.1 a0.2.1 (W (a0.2.2 + 1))).2 : Int) != 1) then
         (bif (((F21 a0.1 a0.2.1 (W (a0.2.2 + 1))).2 : Int) != 0) then
          false
         else
          (bif (((F25 (F21 a0.1 a0.2.1 (W (a0.2.2 + 1))).1 (F21 a0.1 a0.2.1 a0.2.2).1).2 : Int) != 0) then
           false
          else
           (bif (!(F25 (F21 a0.1 a0.2.1 (W (a0.2.2 + 1))).1 (F21 a0.1 a0.2.1 a0.2.2).1).1) then
            false
           else
            (bif (((F26 a0.1 a0.2.1 a0.2.2).2 : Int) == 0) then
             (bif (((F26 a0.1 a0.2.1 (W (a0.2.2 + 1))).2 : Int) != 1) then
              (bif (((F26 a0.1 a0.2.1 (W (a0.2.2 + 1))).2 : Int) != 0) then
               false
              else
               (bif (((F25 (F26 a0.1 a0.2.1 (W (a0.2.2 + 1))).1 (F26 a0.1 a0.2.1 a0.2.2).1).2 : Int) != 0) then
                false
               else
                (bif (!(F25 (F26 a0.1 a0.2.1 (W (a0.2.2 + 1))).1 (F26 a0.1 a0.2.1 a0.2.2).1).1) then
                 false
                else
                 F16)))
             else
              F16)
            else
             F16))))
        else
         (bif (((F26 a0.1 a0.2.1 a0.2.2).2 : Int) == 0) then
          (bif (((F26 a0.1 a0.2.1 (W (a0.2.2 + 1))).2 : Int) != 1) then
           (bif (((F26 a0.1 a0.2.1 (W (a0.2.2 + 1))).2 : Int) != 0) then
            false
           else
            (bif (((F25 (F26 a0.1 a0.2.1 (W (a0.2.2 + 1))).1 (F26 a0.1 a0.2.1 a0.2.2).1).2 : Int) != 0) then
             false
            else
             (bif (!(F25 (F26 a0.1 a0.2.1 (W (a0.2.2 + 1))).1 (F26 a0.1 a0.2.1 a0.2.2).1).1) then
              false
             else
              F16)))
          else
           F16)
         else
          F16))
       else
        (bif (((F26 a0.1 a0.2.1 a0.2.2).2 : Int) == 0) then
         (bif (((F26 a0.1 a0.2.1 (W (a0.2.2 + 1))).2 : Int) != 1) then
          (bif (((F26 a0.1 a0.2.1 (W (a0.2.2 + 1))).2 : Int) != 0) then
           false
          else
           (bif (((F25 (F26 a0.1 a0.2.1 (W (a0.2.2 + 1))).1 (F26 a0.1 a0.2.1 a0.2.2).1).2 : Int) != 0) then
            false
           else
            (bif (!(F25 (F26 a0.1 a0.2.1 (W (a0.2.2 + 1))).1 (F26 a0.1 a0.2.1 a0.2.2).1).1) then
             false
            else
             F16)))
         else
          F16)
        else
         F16)))))
   else
    (bif (((F21 a0.1 a0.2.1 a0.2.2).2 : Int) == 0) then
     (bif (((F21 a0.1 a0.2.1 (W (a0.2.2 + 1))).2 : Int) != 1) then
      (bif (((F21 a0.1 a0.2.1 (W (a0.2.2 + 1))).2 : Int) != 0) then
       false
      else
       (bif (((F25 (F21 a0.1 a0.2.1 (W (a0.2.2 + 1))).1 (F21 a0.1 a0.2.1 a0.2.2).1).2 : Int) != 0) then
        false
       else
        (bif (!(F25 (F21 a0.1 a0.2.1 (W (a0.2.2 + 1))).1 (F21 a0.1 a0.2.1 a0.2.2).1).1) then
         false
        else
         (bif (((F26 a0.1 a0.2.1 a0.2.2).2 : Int) == 0) then
          (bif (((F26 a0.1 a0.2.1 (W (a0.2.2 + 1))).2 : Int) != 1) then
           (bif (((F26 a0.1 a0.2.1 (W (a0.2.2 + 1))).2 : Int) != 0) then
            false
           else
            (bif (((F25 (F26 a0.1 a0.2.1 (W (a0.2.2 + 1))).1 (F26 a0.1 a0.2.1 a0.2.2).1).2 : Int) != 0) then
             false
            else
             (bif (!(F25 (F26 a0.1 a0.2.1 (W (a0.2.2 + 1))).1 (F26 a0.1 a0.2.1 a0.2.2).1).1) then
              false
             else
              F16)))
          else
           F16)
         else
          F16))))
     else
      (bif (((F26 a0.1 a0.2.1 a0.2.2).2 : Int) == 0) then
       (bif (((F26 a0.1 a0.2.1 (W (a0.2.2 + 1))).2 : Int) != 1) then
        (bif (((F26 a0.1 a0.2.1 (W (a0.2.2 + 1))).2 : Int) != 0) then
         false
        else
         (bif (((F25 (F26 a0.1 a0.2.1 (W (a0.2.2 + 1))).1 (F26 a0.1 a0.2.1 a0.2.2).1).2 : Int) != 0) then
          false
         else
          (bif (!(F25 (F26 a0.1 a0.2.1 (W (a0.2.2 + 1))).1 (F26 a0.1 a0.2.1 a0.2.2).1).1) then
           false
          else
           F16)))
       else
        F16)
      else
       F16))
    else
     (bif (((F26 a0.1 a0.2.1 a0.2.2).2 : Int) == 0) then
      (bif (((F26 a0.1 a0.2.1 (W (a0.2.2 + 1))).2 : Int) != 1) then
       (bif (((F26 a0.1 a0.2.1 (W (a0.2.2 + 1))).2 : Int) != 0) then
        false
       else
        (bif (((F25 (F26 a0.1 a0.2.1 (W (a0.2.2 + 1))).1 (F26 a0.1 a0.2.1 a0.2.2).1).2 : Int) != 0) then
         false
        else
         (bif (!(F25 (F26 a0.1 a0.2.1 (W (a0.2.2 + 1))).1 (F26 a0.1 a0.2.1 a0.2.2).1).1) then
          false
         else
          F16)))
      else
       F16)
     else
      F16)))
  else
   (bif (((F21 a0.1 a0.2.1 a0.2.2).2 : Int) == 0) then
    (bif (((F21 a0.1 a0.2.1 (W (a0.2.2 + 1))).2 : Int) != 1) then
     (bif (((F21 a0.1 a0.2.1 (W (a0.2.2 + 1))).2 : Int) != 0) then
      false
     else
      (bif (((F25 (F21 a0.1 a0.2.1 (W (a0.2.2 + 1))).1 (F21 a0.1 a0.2.1 a0.2.2).1).2 : Int) != 0) then
       false
      else
       (bif (!(F25 (F21 a0.1 a0.2.1 (W (a0.2.2 + 1))).1 (F21 a0.1 a0.2.1 a0.2.2).1).1) then
        false
       else
        (bif (((F26 a0.1 a0.2.1 a0.2.2).2 : Int) == 0) then
         (bif (((F26 a0.1 a0.2.1 (W (a0.2.2 + 1))).2 : Int) != 1) then
          (bif (((F26 a0.1 a0.2.1 (W (a0.2.2 + 1))).2 : Int) != 0) then
           false
          else
           (bif (((F25 (F26 a0.1 a0.2.1 (W (a0.2.2 + 1))).1 (F26 a0.1 a0.2.1 a0.2.2).1).2 : Int) != 0) then
            false
           else
            (bif (!(F25 (F26 a0.1 a0.2.1 (W (a0.2.2 + 1))).1 (F26 a0.1 a0.2.1 a0.2.2).1).1) then
             false
            else
             F16)))
         else
          F16)
        else
         F16))))
    else
     (bif (((F26 a0.1 a0.2.1 a0.2.2).2 : Int) == 0) then
      (bif (((F26 a0.1 a0.2.1 (W (a0.2.2 + 1))).2 : Int) != 1) then
       (bif (((F26 a0.1 a0.2.1 (W (a0.2.2 + 1))).2 : Int) != 0) then
        false
       else
        (bif (((F25 (F26 a0.1 a0.2.1 (W (a0.2.2 + 1))).1 (F26 a0.1 a0.2.1 a0.2.2).1).2 : Int) != 0) then
         false
        else
         (bif (!(F25 (F26 a0.1 a0.2.1 (W (a0.2.2 + 1))).1 (F26 a0.1 a0.2.1 a0.2.2).1).1) then
          false
         else
          F16)))
      else
       F16)
     else
      F16))
   else
    (bif (((F26 a0.1 a0.2.1 a0.2.2).2 : Int) == 0) then
     (bif (((F26 a0.1 a0.2.1 (W (a0.2.2 + 1))).2 : Int) != 1) then
      (bif (((F26 a0.1 a0.2.1 (W (a0.2.2 + 1))).2 : Int) != 0) then
       false
      else
       (bif (((F25 (F26 a0.1 a0.2.1 (W (a0.2.2 + 1))).1 (F26 a0.1 a0.2.1 a0.2.2).1).2 : Int) != 0) then
        false
       else
        (bif (!(F25 (F26 a0.1 a0.2.1 (W (a0.2.2 + 1))).1 (F26 a0.1 a0.2.1 a0.2.2).1).1) then
         false
        else
         F16)))
     else
      F16)
    else
     F16)))

noncomputable def oC7_0 (a0 : ((Int × Int × Int) × (Int × Int × Int) × Int × Int × Int) × (Int × Int × Int) × Int) : Or := .call [] (.t [(.a (k2 (F19 a0.1 a0.2.1 a0.2.2).1)), (iv (F19 a0.1 a0.2.1 a0.2.2).2)]) []
noncomputable def oC7_1 (a0 : ((Int × Int × Int) × (Int × Int × Int) × Int × Int × Int) × (Int × Int × Int) × Int) : Or := .call [] (.t [(.a (k2 (F19 a0.1 a0.2.1 (W (a0.2.2 + 1))).1)), (iv (F19 a0.1 a0.2.1 (W (a0.2.2 + 1))).2)]) []
noncomputable def oC7_2 (a0 : ((Int × Int × Int) × (Int × Int × Int) × Int × Int × Int) × (Int × Int × Int) × Int) : Or := .call [] (.t [(.v (.bool (F25 (F19 a0.1 a0.2.1 (W (a0.2.2 + 1))).1 (F19 a0.1 a0.2.1 a0.2.2).1).1)), (iv (F25 (F19 a0.1 a0.2.1 (W (a0.2.2 + 1))).1 (F19 a0.1 a0.2.1 a0.2.2).1).2)]) []
noncomputable def oC7_3 (a0 : ((Int × Int × Int) × (Int × Int × Int) × Int × Int × Int) × (Int × Int × Int) × Int) : Ob := .call 19 [(.a (k9 a0.1)), (.a (k3 a0.2.1)), (iv a0.2.2)] [] (.t [(.a (k2 (F19 a0.1 a0.2.1 a0.2.2).1)), (iv (F19 a0.1 a0.2.1 a0.2.2).2)]) []
noncomputable def oC7_4 (a0 : ((Int × Int × Int) × (Int × Int × Int) × Int × Int × Int) × (Int × Int × Int) × Int) : Ob := .call 19 [(.a (k9 a0.1)), (.a (k3 a0.2.1)), (iv (W (a0.2.2 + 1)))] [] (.t [(.a (k2 (F19 a0.1 a0.2.1 (W (a0.2.2 + 1))).1)), (iv (F19 a0.1 a0.2.1 (W (a0.2.2 + 1))).2)]) []
noncomputable def oC7_5 (a0 : ((Int × Int × Int) × (Int × Int × Int) × Int × Int × Int) × (Int × Int × Int) × Int) : Ob := .eq (((F19 a0.1 a0.2.1 (W (a0.2.2 + 1))).2 : Int) != 1) true
noncomputable def oC7_6 (a0 : ((Int × Int × Int) × (Int × Int × Int) × Int × Int × Int) × (Int × Int × Int) × Int) : Ob := .call 25 [(.a (k2 (F19 a0.1 a0.2.1 (W (a0.2.2 + 1))).1)), (.a (k2 (F19 a0.1 a0.2.1 a0.2.2).1))] [] (.t [(.v (.bool (F25 (F19 a0.1 a0.2.1 (W (a0.2.2 + 1))).1 (F19 a0.1 a0.2.1 a0.2.2).1).1)), (iv (F25 (F19 a0.1 a0.2.1 (W (a0.2.2 + 1))).1 (F19 a0.1 a0.2.1 a0.2.2).1).2)]) []
noncomputable def oC7_7 (a0 : ((Int × Int × Int) × (Int × Int × Int) × Int × Int × Int) × (Int × Int × Int) × Int) : Ob := .eq (((F19 a0.1 a0.2.1 (W (a0.2.2 + 1))).2 : Int) != 0) false
noncomputable def oC7_8 (a0 : ((Int × Int × Int) × (Int × Int × Int) × Int × Int × Int) × (Int × Int × Int) × Int) : Ob := .eq (((F25 (F19 a0.1 a0.2.1 (W (a0.2.2 + 1))).1 (F19 a0.1 a0.2.1 a0.2.2).1).2 : Int) != 0) false
noncomputable def oC7_9 (a0 : ((Int × Int × Int) × (Int × Int × Int) × Int × Int × Int) × (Int × Int × Int) × Int) : Or := .call [] (.t [(.a (k2 (F21 a0.1 a0.2.1 a0.2.2).1)), (iv (F21 a0.1 a0.2.1 a0.2.2).2)]) []
noncomputable def oC7_10 (a0 : ((Int × Int × Int) × (Int × Int × Int) × Int × Int × Int) × (Int × Int × Int) × Int) : Or := .call [] (.t [(.a (k2 (F21 a0.1 a0.2.1 (W (a0.2.2 + 1))).1)), (iv (F21 a0.1 a0.2.1 (W (a0.2.2 + 1))).2)]) []
noncomputable def oC7_11 (a0 : ((Int × Int × Int) × (Int × Int × Int) × Int × Int × Int) × (Int × Int × Int) × Int) : Or := .call [] (.t [(.v (.bool (F25 (F21 a0.1 a0.2.1 (W (a0.2.2 + 1))).1 (F21 a0.1 a0.2.1 a0.2.2).1).1)), (iv (F25 (F21 a0.1 a0.2.1 (W (a0.2.2 + 1))).1 (F21 a0.1 a0.2.1 a0.2.2).1).2)]) []
noncomputable def oC7_12 (a0 : ((Int × Int × Int) × (Int × Int × Int) × Int × Int × Int) × (Int × Int × Int) × Int) : Ob := .eq (!(F25 (F19 a0.1 a0.2.1 (W (a0.2.2 + 1))).1 (F19 a0.1 a0.2.1 a0.2.2).1).1) false
noncomputable def oC7_13 (a0 : ((Int × Int × Int) × (Int × Int × Int) × Int × Int × Int) × (Int × Int × Int) × Int) : Ob := .call 21 [(.a (k9 a0.1)), (.a (k3 a0.2.1)), (iv a0.2.2)] [] (.t [(.a (k2 (F21 a0.1 a0.2.1 a0.2.2).1)), (iv (F21 a0.1 a0.2.1 a0.2.2).2)]) []
noncomputable def oC7_14 (a0 : ((Int × Int × Int) × (Int × Int × Int) × Int × Int × Int) × (Int × Int × Int) × Int) : Ob := .call 21 [(.a (k9 a0.1)), (.a (k3 a0.2.1)), (iv (W (a0.2.2 + 1)))] [] (.t [(.a (k2 (F21 a0.1 a0.2.1 (W (a0.2.2 + 1))).1)), (iv (F21 a0.1 a0.2.1 (W (a0.2.2 + 1))).2)]) []
noncomputable def oC7_15 (a0 : ((Int × Int × Int) × (Int × Int × Int) × Int × Int × Int) × (Int × Int × Int) × Int) : Ob := .eq (((F21 a0.1 a0.2.1 (W (a0.2.2 + 1))).2 : Int) != 1) true
noncomputable def oC7_16 (a0 : ((Int × Int × Int) × (Int × Int × Int) × Int × Int × Int) × (Int × Int × Int) × Int) : Ob := .call 25 [(.a (k2 (F21 a0.1 a0.2.1 (W (a0.2.2 + 1))).1)), (.a (k2 (F21 a0.1 a0.2.1 a0.2.2).1))] [] (.t [(.v (.bool (F25 (F21 a0.1 a0.2.1 (W (a0.2.2 + 1))).1 (F21 a0.1 a0.2.1 a0.2.2).1).1)), (iv (F25 (F21 a0.1 a0.2.1 (W (a0.2.2 + 1))).1 (F21 a0.1 a0.2.1 a0.2.2).1).2)]) []
noncomputable def oC7_17 (a0 : ((Int × Int × Int) × (Int × Int × Int) × Int × Int × Int) × (Int × Int × Int) × Int) : Ob := .eq (((F21 a0.1 a0.2.1 (W (a0.2.2 + 1))).2 : Int) != 0) false
noncomputable def oC7_18 (a0 : ((Int × Int × Int) × (Int × Int × Int) × Int × Int × Int) × (Int × Int × Int) × Int) : Ob := .eq (((F25 (F21 a0.1 a0.2.1 (W (a0.2.2 + 1))).1 (F21 a0.1 a0.2.1 a0.2.2).1).2 : Int) != 0) true
noncomputable def oC7_19 (a0 : ((Int × Int × Int) × (Int × Int × Int) × Int × Int × Int) × (Int × Int × Int) × Int) : Ob := .eq (((F25 (F21 a0.1 a0.2.1 (W (a0.2.2 + 1))).1 (F21 a0.1 a0.2.1 a0.2.2).1).2 : Int) != 0) false
noncomputable def oC7_20 (a0 : ((Int × Int × Int) × (Int × Int × Int) × Int × Int × Int) × (Int × Int × Int) × Int) : Ob := .eq (!(F25 (F21 a0.1 a0.2.1 (W (a0.2.2 + 1))).1 (F21 a0.1 a0.2.1 a0.2.2).1).1) true
noncomputable def oC7_21 (a0 : ((Int × Int × Int) × (Int × Int × Int) × Int × Int × Int) × (Int × Int × Int) × Int) : Or := .call [] (.t [(.a (k2 (F26 a0.1 a0.2.1 a0.2.2).1)), (iv (F26 a0.1 a0.2.1 a0.2.2).2)]) []
noncomputable def oC7_22 (a0 : ((Int × Int × Int) × (Int × Int × Int) × Int × Int × Int) × (Int × Int × Int) × Int) : Or := .call [] (.t [(.a (k2 (F26 a0.1 a0.2.1 (W (a0.2.2 + 1))).1)), (iv (F26 a0.1 a0.2.1 (W (a0.2.2 + 1))).2)]) []
noncomputable def oC7_23 (a0 : ((Int × Int × Int) × (Int × Int × Int) × Int × Int × Int) × (Int × Int × Int) × Int) : Or := .call [] (.t [(.v (.bool (F25 (F26 a0.1 a0.2.1 (W (a0.2.2 + 1))).1 (F26 a0.1 a0.2.1 a0.2.2).1).1)), (iv (F25 (F26 a0.1 a0.2.1 (W (a0.2.2 + 1))).1 (F26 a0.1 a0.2.1 a0.2.2).1).2)]) []
noncomputable def oC7_24 (a0 : ((Int × Int × Int) × (Int × Int × Int) × Int × Int × Int) × (Int × Int × Int) × Int) : Ob := .eq (!(F25 (F21 a0.1 a0.2.1 (W (a0.2.2 + 1))).1 (F21 a0.1 a0.2.1 a0.2.2).1).1) false
noncomputable def oC7_25 (a0 : ((Int × Int × Int) × (Int × Int × Int) × Int × Int × Int) × (Int × Int × Int) × Int) : Ob := .call 26 [(.a (k9 a0.1)), (.a (k3 a0.2.1)), (iv a0.2.2)] [] (.t [(.a (k2 (F26 a0.1 a0.2.1 a0.2.2).1)), (iv (F26 a0.1 a0.2.1 a0.2.2).2)]) []
noncomputable def oC7_26 (a0 : ((Int × Int × Int) × (Int × Int × Int) × Int × Int × Int) × (Int × Int × Int) × Int) : Ob := .call 26 [(.a (k9 a0.1)), (.a (k3 a0.2.1)), (iv (W (a0.2.2 + 1)))] [] (.t [(.a (k2 (F26 a0.1 a0.2.1 (W (a0.2.2 + 1))).1)), (iv (F26 a0.1 a0.2.1 (W (a0.2.2 + 1))).2)]) []
noncomputable def oC7_27 (a0 : ((Int × Int × Int) × (Int × Int × Int) × Int × Int × Int) × (Int × Int × Int) × Int) : Ob := .eq (((F26 a0.1 a0.2.1 (W (a0.2.2 + 1))).2 : Int) != 1) true
noncomputable def oC7_28 (a0 : ((Int × Int × Int) × (Int × Int × Int) × Int × Int × Int) × (Int × Int × Int) × Int) : Ob := .call 25 [(.a (k2 (F26 a0.1 a0.2.1 (W (a0.2.2 + 1))).1)), (.a (k2 (F26 a0.1 a0.2.1 a0.2.2).1))] [] (.t [(.v (.bool (F25 (F26 a0.1 a0.2.1 (W (a0.2.2 + 1))).1 (F26 a0.1 a0.2.1 a0.2.2).1).1)), (iv (F25 (F26 a0.1 a0.2.1 (W (a0.2.2 + 1))).1 (F26 a0.1 a0.2.1 a0.2.2).1).2)]) []
noncomputable def oC7_29 (a0 : ((Int × Int × Int) × (Int × Int × Int) × Int × Int × Int) × (Int × Int × Int) × Int) : Ob := .eq (((F26 a0.1 a0.2.1 (W (a0.2.2 + 1))).2 : Int) != 0) true
noncomputable def oC7_30 (a0 : ((Int × Int × Int) × (Int × Int × Int) × Int × Int × Int) × (Int × Int × Int) × Int) : Ob := .eq (((F26 a0.1 a0.2.1 (W (a0.2.2 + 1))).2 : Int) != 0) false
noncomputable def oC7_31 (a0 : ((Int × Int × Int) × (Int × Int × Int) × Int × Int × Int) × (Int × Int × Int) × Int) : Ob := .eq (((F25 (F26 a0.1 a0.2.1 (W (a0.2.2 + 1))).1 (F26 a0.1 a0.2.1 a0.2.2).1).2 : Int) != 0) true
noncomputable def oC7_32 (a0 : ((Int × Int × Int) × (Int × Int × Int) × Int × Int × Int) × (Int × Int × Int) × Int) : Ob := .eq (((F25 (F26 a0.1 a0.2.1 (W (a0.2.2 + 1))).1 (F26 a0.1 a0.2.1 a0.2.2).1).2 : Int) != 0) false
noncomputable def oC7_33 (a0 : ((Int × Int × Int) × (Int × Int × Int) × Int × Int × Int) × (Int × Int × Int) × Int) : Ob := .eq (!(F25 (F26 a0.1 a0.2.1 (W (a0.2.2 + 1))).1 (F26 a0.1 a0.2.1 a0.2.2).1).1) true
noncomputable def oC7_34 (a0 : ((Int × Int × Int) × (Int × Int × Int) × Int × Int × Int) × (Int × Int × Int) × Int) : Ob := .eq (!(F25 (F26 a0.1 a0.2.1 (W (a0.2.2 + 1))).1 (F26 a0.1 a0.2.1 a0.2.2).1).1) false
noncomputable def oC7_35 (a0 : ((Int × Int × Int) × (Int × Int × Int) × Int × Int × Int) × (Int × Int × Int) × Int) : Ob := .eq (((F26 a0.1 a0.2.1 (W (a0.2.2 + 1))).2 : Int) != 1) false
noncomputable def oC7_36 (a0 : ((Int × Int × Int) × (Int × Int × Int) × Int × Int × Int) × (Int × Int × Int) × Int) : Ob := .eq (((F21 a0.1 a0.2.1 (W (a0.2.2 + 1))).2 : Int) != 1) false
noncomputable def oC7_37 (a0 : ((Int × Int × Int) × (Int × Int × Int) × Int × Int × Int) × (Int × Int × Int) × Int) : Ob := .eq (((F19 a0.1 a0.2.1 (W (a0.2.2 + 1))).2 : Int) != 1) false
theorem C7 (a0 : ((Int × Int × Int) × (Int × Int × Int) × Int × Int × Int) × (Int × Int × Int) × Int) : Con Try.prog 7 [(.a [(iv a0.1.1.1), (iv a0.1.1.2.1), (iv a0.1.1.2.2), (iv a0.1.2.1.1), (iv a0.1.2.1.2.1), (iv a0.1.2.1.2.2), (iv a0.1.2.2.1), (iv a0.1.2.2.2.1), (iv a0.1.2.2.2.2), (iv a0.2.1.1), (iv a0.2.1.2.1), (iv a0.2.1.2.2), (iv a0.2.2)])] [] (.v (.bool (F7 a0))) [] := by
  cases h0 : (((F19 a0.1 a0.2.1 a0.2.2).2 : Int) == 0) with
  | true =>
    cases h1 : (((F19 a0.1 a0.2.1 (W (a0.2.2 + 1))).2 : Int) != 1) with
    | true =>
      cases h2 : (((F19 a0.1 a0.2.1 (W (a0.2.2 + 1))).2 : Int) != 0) with
      | true =>
        have q0 := eq_of_beq h0
        have q1 := bne_iff_ne.1 h1
        have q2 := bne_iff_ne.1 h2
        have e : (F7 a0) = false := by simp only [F7, h0, h1, h2, cond_true, cond_false]
        rw [e]
        refine con_of (n := 9) Try.func7 rfl (ent Try.func7 (by kernel_rfl) rfl) (by show 1 ≤ Try.f7.ntmps; decide) (by kernel_rfl) trivial (fun cx hcx => ?_)
        exact ret_of (T := T0) hT hm (f := 5000) (orc := [(oC7_0 a0), (oC7_1 a0), .d true, .d true, (oC7_2 a0), .d true]) [] [] [] hcx
          (obs := [(oC7_3 a0), (oC7_4 a0), .eq (((F19 a0.1 a0.2.1 a0.2.2).2 : Int) == 0) true, (oC7_5 a0), (oC7_6 a0), .eq (((F19 a0.1 a0.2.1 (W (a0.2.2 + 1))).2 : Int) != 0) true]) (by kernel_rfl) ⟨(C19 a0.1 a0.2.1 a0.2.2), (C19 a0.1 a0.2.1 (W (a0.2.2 + 1))), h0, h1, (C25 (F19 a0.1 a0.2.1 (W (a0.2.2 + 1))).1 (F19 a0.1 a0.2.1 a0.2.2).1), h2, trivial⟩
      | false =>
        cases h3 : (((F25 (F19 a0.1 a0.2.1 (W (a0.2.2 + 1))).1 (F19 a0.1 a0.2.1 a0.2.2).1).2 : Int) != 0) with
        | true =>
          have q0 := eq_of_beq h0
          have q1 := bne_iff_ne.1 h1
          have q2 := bne_eq_false_iff_eq.1 h2
          have q3 := bne_iff_ne.1 h3
          have e : (F7 a0) = false := by simp only [F7, h0, h1, h2, h3, cond_true, cond_false]
          rw [e]
          refine con_of (n := 9) Try.func7 rfl (ent Try.func7 (by kernel_rfl) rfl) (by show 1 ≤ Try.f7.ntmps; decide) (by kernel_rfl) trivial (fun cx hcx => ?_)
          exact ret_of (T := T0) hT hm (f := 5000) (orc := [(oC7_0 a0), (oC7_1 a0), .d true, .d true, (oC7_2 a0), .d false, .d true]) [] [] [] hcx
            (obs := [(oC7_3 a0), (oC7_4 a0), .eq (((F19 a0.1 a0.2.1 a0.2.2).2 : Int) == 0) true, (oC7_5 a0), (oC7_6 a0), (oC7_7 a0), .eq (((F25 (F19 a0.1 a0.2.1 (W (a0.2.2 + 1))).1 (F19 a0.1 a0.2.1 a0.2.2).1).2 : Int) != 0) true]) (by kernel_rfl) ⟨(C19 a0.1 a0.2.1 a0.2.2), (C19 a0.1 a0.2.1 (W (a0.2.2 + 1))), h0, h1, (C25 (F19 a0.1 a0.2.1 (W (a0.2.2 + 1))).1 (F19 a0.1 a0.2.1 a0.2.2).1), h2, h3, trivial⟩
        | false =>
          cases h4 : (!(F25 (F19 a0.1 a0.2.1 (W (a0.2.2 + 1))).1 (F19 a0.1 a0.2.1 a0.2.2).1).1) with
          | true =>
            have q0 := eq_of_beq h0
            have q1 := bne_iff_ne.1 h1
            have q2 := bne_eq_false_iff_eq.1 h2
            have q3 := bne_eq_false_iff_eq.1 h3
            have e : (F7 a0) = false := by simp only [F7, h0, h1, h2, h3, h4, cond_true, cond_false]
            rw [e]
            refine con_of (n := 9) Try.func7 rfl (ent Try.func7 (by kernel_rfl) rfl) (by show 1 ≤ Try.f7.ntmps; decide) (by kernel_rfl) trivial (fun cx hcx => ?_)
            exact ret_of (T := T0) hT hm (f := 5000) (orc := [(oC7_0 a0), (oC7_1 a0), .d true, .d true, (oC7_2 a0), .d false, .d false, .d true]) [] [] [] hcx
              (obs := [(oC7_3 a0), (oC7_4 a0), .eq (((F19 a0.1 a0.2.1 a0.2.2).2 : Int) == 0) true, (oC7_5 a0), (oC7_6 a0), (oC7_7 a0), (oC7_8 a0), .eq (!(F25 (F19 a0.1 a0.2.1 (W (a0.2.2 + 1))).1 (F19 a0.1 a0.2.1 a0.2.2).1).1) true]) (by kernel_rfl) ⟨(C19 a0.1 a0.2.1 a0.2.2), (C19 a0.1 a0.2.1 (W (a0.2.2 + 1))), h0, h1, (C25 (F19 a0.1 a0.2.1 (W (a0.2.2 + 1))).1 (F19 a0.1 a0.2.1 a0.2.2).1), h2, h3, h4, trivial⟩
          | false =>
            cases h5 : (((F21 a0.1 a0.2.1 a0.2.2).2 : Int) == 0) with
            | true =>
              cases h6 : (((F21 a0.1 a0.2.1 (W (a0.2.2 + 1))).2 : Int) != 1) with
              | true =>
                cases h7 : (((F21 a0.1 a0.2.1 (W (a0.2.2 + 1))).2 : Int) != 0) with
                | true =>
                  have q0 := eq_of_beq h0
                  have q1 := bne_iff_ne.1 h1
                  have q2 := bne_eq_false_iff_eq.1 h2
                  have q3 := bne_eq_false_iff_eq.1 h3
                  have q5 := eq_of_beq h5
                  have q6 := bne_iff_ne.1 h6
                  have q7 := bne_iff_ne.1 h7
                  have e : (F7 a0) = false := by simp only [F7, h0, h1, h2, h3, h4, h5, h6, h7, cond_true, cond_false]
                  rw [e]
                  refine con_of (n := 9) Try.func7 rfl (ent Try.func7 (by kernel_rfl) rfl) (by show 1 ≤ Try.f7.ntmps; decide) (by kernel_rfl) trivial (fun cx hcx => ?_)
                  exact ret_of (T := T0) hT hm (f := 5000) (orc := [(oC7_0 a0), (oC7_1 a0), .d true, .d true, (oC7_2 a0), .d false, .d false, .d false, (oC7_9 a0), (oC7_10 a0), .d true, .d true, (oC7_11 a0), .d true]) [] [] [] hcx
                    (obs := [(oC7_3 a0), (oC7_4 a0), .eq (((F19 a0.1 a0.2.1 a0.2.2).2 : Int) == 0) true, (oC7_5 a0), (oC7_6 a0), (oC7_7 a0), (oC7_8 a0), (oC7_12 a0), (oC7_13 a0), (oC7_14 a0), .eq (((F21 a0.1 a0.2.1 a0.2.2).2 : Int) == 0) true, (oC7_15 a0), (oC7_16 a0), .eq (((F21 a0.1 a0.2.1 (W (a0.2.2 + 1))).2 : Int) != 0) true]) (by kernel_rfl) ⟨(C19 a0.1 a0.2.1 a0.2.2), (C19 a0.1 a0.2.1 (W (a0.2.2 + 1))), h0, h1, (C25 (F19 a0.1 a0.2.1 (W (a0.2.2 + 1))).1 (F19 a0.1 a0.2.1 a0.2.2).1), h2, h3, h4, (C21 a0.1 a0.2.1 a0.2.2), (C21 a0.1 a0.2.1 (W (a0.2.2 + 1))), h5, h6, (C25 (F21 a0.1 a0.2.1 (W (a0.2.2 + 1))).1 (F21 a0.1 a0.2.1 a0.2.2).1), h7, trivial⟩
                | false =>
                  cases h8 : (((F25 (F21 a0.1 a0.2.1 (W (a0.2.2 + 1))).1 (F21 a0.1 a0.2.1 a0.2.2).1).2 : Int) != 0) with
                  | true =>
                    have q0 := eq_of_beq h0
                    have q1 := bne_iff_ne.1 h1
                    have q2 := bne_eq_false_iff_eq.1 h2
                    have q3 := bne_eq_false_iff_eq.1 h3
                    have q5 := eq_of_beq h5
                    have q6 := bne_iff_ne.1 h6
                    have q7 := bne_eq_false_iff_eq.1 h7
                    have q8 := bne_iff_ne.1 h8
                    have e : (F7 a0) = false := by simp only [F7, h0, h1, h2, h3, h4, h5, h6, h7, h8, cond_true, cond_false]
                    rw [e]
                    refine con_of (n := 9) Try.func7 rfl (ent Try.func7 (by kernel_rfl) rfl) (by show 1 ≤ Try.f7.ntmps; decide) (by kernel_rfl) trivial (fun cx hcx => ?_)
                    exact ret_of (T := T0) hT hm (f := 5000) (orc := [(oC7_0 a0), (oC7_1 a0), .d true, .d true, (oC7_2 a0), .d false, .d false, .d false, (oC7_9 a0), (oC7_10 a0), .d true, .d true, (oC7_11 a0), .d false, .d true]) [] [] [] hcx
                      (obs := [(oC7_3 a0), (oC7_4 a0), .eq (((F19 a0.1 a0.2.1 a0.2.2).2 : Int) == 0) true, (oC7_5 a0), (oC7_6 a0), (oC7_7 a0), (oC7_8 a0), (oC7_12 a0), (oC7_13 a0), (oC7_14 a0), .eq (((F21 a0.1 a0.2.1 a0.2.2).2 : Int) == 0) true, (oC7_15 a0), (oC7_16 a0), (oC7_17 a0), (oC7_18 a0)]) (by kernel_rfl) ⟨(C19 a0.1 a0.2.1 a0.2.2), (C19 a0.1 a0.2.1 (W (a0.2.2 + 1))), h0, h1, (C25 (F19 a0.1 a0.2.1 (W (a0.2.2 + 1))).1 (F19 a0.1 a0.2.1 a0.2.2).1), h2, h3, h4, (C21 a0.1 a0.2.1 a0.2.2), (C21 a0.1 a0.2.1 (W (a0.2.2 + 1))), h5, h6, (C25 (F21 a0.1 a0.2.1 (W (a0.2.2 + 1))).1 (F21 a0.1 a0.2.1 a0.2.2).1), h7, h8, trivial⟩
                  | false =>
                    cases h9 : (!(F25 (F21 a0.1 a0.2.1 (W (a0.2.2 + 1))).1 (F21 a0.1 a0.2.1 a0.2.2).1).1) with
                    | true =>
                      have q0 := eq_of_beq h0
                      have q1 := bne_iff_ne.1 h1
                      have q2 := bne_eq_false_iff_eq.1 h2
                      have q3 := bne_eq_false_iff_eq.1 h3
                      have q5 := eq_of_beq h5
                      have q6 := bne_iff_ne.1 h6
                      have q7 := bne_eq_false_iff_eq.1 h7
                      have q8 := bne_eq_false_iff_eq.1 h8
                      have e : (F7 a0) = false := by simp only [F7, h0, h1, h2, h3, h4, h5, h6, h7, h8, h9, cond_true, cond_false]
                      rw [e]
                      refine con_of (n := 9) Try.func7 rfl (ent Try.func7 (by kernel_rfl) rfl) (by show 1 ≤ Try.f7.ntmps; decide) (by kernel_rfl) trivial (fun cx hcx => ?_)
                      exact ret_of (T := T0) hT hm (f := 5000) (orc := [(oC7_0 a0), (oC7_1 a0), .d true, .d true, (oC7_2 a0), .d false, .d false, .d false, (oC7_9 a0), (oC7_10 a0), .d true, .d true, (oC7_11 a0), .d false, .d false, .d true]) [] [] [] hcx
                        (obs := [(oC7_3 a0), (oC7_4 a0), .eq (((F19 a0.1 a0.2.1 a0.2.2).2 : Int) == 0) true, (oC7_5 a0), (oC7_6 a0), (oC7_7 a0), (oC7_8 a0), (oC7_12 a0), (oC7_13 a0), (oC7_14 a0), .eq (((F21 a0.1 a0.2.1 a0.2.2).2 : Int) == 0) true, (oC7_15 a0), (oC7_16 a0), (oC7_17 a0), (oC7_19 a0), (oC7_20 a0)]) (by kernel_rfl) ⟨(C19 a0.1 a0.2.1 a0.2.2), (C19 a0.1 a0.2.1 (W (a0.2.2 + 1))), h0, h1, (C25 (F19 a0.1 a0.2.1 (W (a0.2.2 + 1))).1 (F19 a0.1 a0.2.1 a0.2.2).1), h2, h3, h4, (C21 a0.1 a0.2.1 a0.2.2), (C21 a0.1 a0.2.1 (W (a0.2.2 + 1))), h5, h6, (C25 (F21 a0.1 a0.2.1 (W (a0.2.2 + 1))).1 (F21 a0.1 a0.2.1 a0.2.2).1), h7, h8, h9, trivial⟩
                    | false =>
                      cases h10 : (((F26 a0.1 a0.2.1 a0.2.2).2 : Int) == 0) with
                      | true =>
                        cases h11 : (((F26 a0.1 a0.2.1 (W (a0.2.2 + 1))).2 : Int) != 1) with
                        | true =>
                          cases h12 : (((F26 a0.1 a0.2.1 (W (a0.2.2 + 1))).2 : Int) != 0) with
                          | true =>
                            have q0 := eq_of_beq h0
                            have q1 := bne_iff_ne.1 h1
                            have q2 := bne_eq_false_iff_eq.1 h2
                            have q3 := bne_eq_false_iff_eq.1 h3
                            have q5 := eq_of_beq h5
                            have q6 := bne_iff_ne.1 h6
                            have q7 := bne_eq_false_iff_eq.1 h7
                            have q8 := bne_eq_false_iff_eq.1 h8
                            have q10 := eq_of_beq h10
                            have q11 := bne_iff_ne.1 h11
                            have q12 := bne_iff_ne.1 h12
                            have e : (F7 a0) = false := by simp only [F7, h0, h1, h2, h3, h4, h5, h6, h7, h8, h9, h10, h11, h12, cond_true, cond_false]
                            rw [e]
                            refine con_of (n := 9) Try.func7 rfl (ent Try.func7 (by kernel_rfl) rfl) (by show 1 ≤ Try.f7.ntmps; decide) (by kernel_rfl) trivial (fun cx hcx => ?_)
                            exact ret_of (T := T0) hT hm (f := 5000) (orc := [(oC7_0 a0), (oC7_1 a0), .d true, .d true, (oC7_2 a0), .d false, .d false, .d false, (oC7_9 a0), (oC7_10 a0), .d true, .d true, (oC7_11 a0), .d false, .d false, .d false, (oC7_21 a0), (oC7_22 a0), .d true, .d true, (oC7_23 a0), .d true]) [] [] [] hcx
                              (obs := [(oC7_3 a0), (oC7_4 a0), .eq (((F19 a0.1 a0.2.1 a0.2.2).2 : Int) == 0) true, (oC7_5 a0), (oC7_6 a0), (oC7_7 a0), (oC7_8 a0), (oC7_12 a0), (oC7_13 a0), (oC7_14 a0), .eq (((F21 a0.1 a0.2.1 a0.2.2).2 : Int) == 0) true, (oC7_15 a0), (oC7_16 a0), (oC7_17 a0), (oC7_19 a0), (oC7_24 a0), (oC7_25 a0), (oC7_26 a0), .eq (((F26 a0.1 a0.2.1 a0.2.2).2 : Int) == 0) true, (oC7_27 a0), (oC7_28 a0), (oC7_29 a0)]) (by kernel_rfl) ⟨(C19 a0.1 a0.2.1 a0.2.2), (C19 a0.1 a0.2.1 (W (a0.2.2 + 1))), h0, h1, (C25 (F19 a0.1 a0.2.1 (W (a0.2.2 + 1))).1 (F19 a0.1 a0.2.1 a0.2.2).1), h2, h3, h4, (C21 a0.1 a0.2.1 a0.2.2), (C21 a0.1 a0.2.1 (W (a0.2.2 + 1))), h5, h6, (C25 (F21 a0.1 a0.2.1 (W (a0.2.2 + 1))).1 (F21 a0.1 a0.2.1 a0.2.2).1), h7, h8, h9, (C26 a0.1 a0.2.1 a0.2.2), (C26 a0.1 a0.2.1 (W (a0.2.2 + 1))), h10, h11, (C25 (F26 a0.1 a0.2.1 (W (a0.2.2 + 1))).1 (F26 a0.1 a0.2.1 a0.2.2).1), h12, trivial⟩
                          | false =>
                            cases h13 : (((F25 (F26 a0.1 a0.2.1 (W (a0.2.2 + 1))).1 (F26 a0.1 a0.2.1 a0.2.2).1).2 : Int) != 0) with
                            | true =>
                              have q0 := eq_of_beq h0
                              have q1 := bne_iff_ne.1 h1
                              have q2 := bne_eq_false_iff_eq.1 h2
                              have q3 := bne_eq_false_iff_eq.1 h3
                              have q5 := eq_of_beq h5
                              have q6 := bne_iff_ne.1 h6
                              have q7 := bne_eq_false_iff_eq.1 h7
                              have q8 := bne_eq_false_iff_eq.1 h8
                              have q10 := eq_of_beq h10
                              have q11 := bne_iff_ne.1 h11
                              have q12 := bne_eq_false_iff_eq.1 h12
                              have q13 := bne_iff_ne.1 h13
                              have e : (F7 a0) = false := by simp only [F7, h0, h1, h2, h3, h4, h5, h6, h7, h8, h9, h10, h11, h12, h13, cond_true, cond_false]
                              rw [e]
                              refine con_of (n := 9) Try.func7 rfl (ent Try.func7 (by kernel_rfl) rfl) (by show 1 ≤ Try.f7.ntmps; decide) (by kernel_rfl) trivial (fun cx hcx => ?_)
                              exact ret_of (T := T0) hT hm (f := 5000) (orc := [(oC7_0 a0), (oC7_1 a0), .d true, .d true, (oC7_2 a0), .d false, .d false, .d false, (oC7_9 a0), (oC7_10 a0), .d true, .d true, (oC7_11 a0), .d false, .d false, .d false, (oC7_21 a0), (oC7_22 a0), .d true, .d true, (oC7_23 a0), .d false, .d true]) [] [] [] hcx
                                (obs := [(oC7_3 a0), (oC7_4 a0), .eq (((F19 a0.1 a0.2.1 a0.2.2).2 : Int) == 0) true, (oC7_5 a0), (oC7_6 a0), (oC7_7 a0), (oC7_8 a0), (oC7_12 a0), (oC7_13 a0), (oC7_14 a0), .eq (((F21 a0.1 a0.2.1 a0.2.2).2 : Int) == 0) true, (oC7_15 a0), (oC7_16 a0), (oC7_17 a0), (oC7_19 a0), (oC7_24 a0), (oC7_25 a0), (oC7_26 a0), .eq (((F26 a0.1 a0.2.1 a0.2.2).2 : Int) == 0) true, (oC7_27 a0), (oC7_28 a0), (oC7_30 a0), (oC7_31 a0)]) (by kernel_rfl) ⟨(C19 a0.1 a0.2.1 a0.2.2), (C19 a0.1 a0.2.1 (W (a0.2.2 + 1))), h0, h1, (C25 (F19 a0.1 a0.2.1 (W (a0.2.2 + 1))).1 (F19 a0.1 a0.2.1 a0.2.2).1), h2, h3, h4, (C21 a0.1 a0.2.1 a0.2.2), (C21 a0.1 a0.2.1 (W (a0.2.2 + 1))), h5, h6, (C25 (F21 a0.1 a0.2.1 (W (a0.2.2 + 1))).1 (F21 a0.1 a0.2.1 a0.2.2).1), h7, h8, h9, (C26 a0.1 a0.2.1 a0.2.2), (C26 a0.1 a0.2.1 (W (a0.2.2 + 1))), h10, h11, (C25 (F26 a0.1 a0.2.1 (W (a0.2.2 + 1))).1 (F26 a0.1 a0.2.1 a0.2.2).1), h12, h13, trivial⟩
                            | false =>
                              cases h14 : (!(F25 (F26 a0.1 a0.2.1 (W (a0.2.2 + 1))).1 (F26 a0.1 a0.2.1 a0.2.2).1).1) with
                              | true =>
                                have q0 := eq_of_beq h0
                                have q1 := bne_iff_ne.1 h1
                                have q2 := bne_eq_false_iff_eq.1 h2
                                have q3 := bne_eq_false_iff_eq.1 h3
                                have q5 := eq_of_beq h5
                                have q6 := bne_iff_ne.1 h6
                                have q7 := bne_eq_false_iff_eq.1 h7
                                have q8 := bne_eq_false_iff_eq.1 h8
                                have q10 := eq_of_beq h10
                                have q11 := bne_iff_ne.1 h11
                                have q12 := bne_eq_false_iff_eq.1 h12
                                have q13 := bne_eq_false_iff_eq.1 h13
                                have e : (F7 a0) = false := by simp only [F7, h0, h1, h2, h3, h4, h5, h6, h7, h8, h9, h10, h11, h12, h13, h14, cond_true, cond_false]
                                rw [e]
                                refine con_of (n := 9) Try.func7 rfl (ent Try.func7 (by kernel_rfl) rfl) (by show 1 ≤ Try.f7.ntmps; decide) (by kernel_rfl) trivial (fun cx hcx => ?_)
                                exact ret_of (T := T0) hT hm (f := 5000) (orc := [(oC7_0 a0), (oC7_1 a0), .d true, .d true, (oC7_2 a0), .d false, .d false, .d false, (oC7_9 a0), (oC7_10 a0), .d true, .d true, (oC7_11 a0), .d false, .d false, .d false, (oC7_21 a0), (oC7_22 a0), .d true, .d true, (oC7_23 a0), .d false, .d false, .d true]) [] [] [] hcx
                                  (obs := [(oC7_3 a0), (oC7_4 a0), .eq (((F19 a0.1 a0.2.1 a0.2.2).2 : Int) == 0) true, (oC7_5 a0), (oC7_6 a0), (oC7_7 a0), (oC7_8 a0), (oC7_12 a0), (oC7_13 a0), (oC7_14 a0), .eq (((F21 a0.1 a0.2.1 a0.2.2).2 : Int) == 0) true, (oC7_15 a0), (oC7_16 a0), (oC7_17 a0), (oC7_19 a0), (oC7_24 a0), (oC7_25 a0), (oC7_26 a0), .eq (((F26 a0.1 a0.2.1 a0.2.2).2 : Int) == 0) true, (oC7_27 a0), (oC7_28 a0), (oC7_30 a0), (oC7_32 a0), (oC7_33 a0)]) (by kernel_rfl) ⟨(C19 a0.1 a0.2.1 a0.2.2), (C19 a0.1 a0.2.1 (W (a0.2.2 + 1))), h0, h1, (C25 (F19 a0.1 a0.2.1 (W (a0.2.2 + 1))).1 (F19 a0.1 a0.2.1 a0.2.2).1), h2, h3, h4, (C21 a0.1 a0.2.1 a0.2.2), (C21 a0.1 a0.2.1 (W (a0.2.2 + 1))), h5, h6, (C25 (F21 a0.1 a0.2.1 (W (a0.2.2 + 1))).1 (F21 a0.1 a0.2.1 a0.2.2).1), h7, h8, h9, (C26 a0.1 a0.2.1 a0.2.2), (C26 a0.1 a0.2.1 (W (a0.2.2 + 1))), h10, h11, (C25 (F26 a0.1 a0.2.1 (W (a0.2.2 + 1))).1 (F26 a0.1 a0.2.1 a0.2.2).1), h12, h13, h14, trivial⟩
                              | false =>
                                have q0 := eq_of_beq h0
                                have q1 := bne_iff_ne.1 h1
                                have q2 := bne_eq_false_iff_eq.1 h2
                                have q3 := bne_eq_false_iff_eq.1 h3
                                have q5 := eq_of_beq h5
                                have q6 := bne_iff_ne.1 h6
                                have q7 := bne_eq_false_iff_eq.1 h7
                                have q8 := bne_eq_false_iff_eq.1 h8
                                have q10 := eq_of_beq h10
                                have q11 := bne_iff_ne.1 h11
                                have q12 := bne_eq_false_iff_eq.1 h12
                                have q13 := bne_eq_false_iff_eq.1 h13
                                have e : (F7 a0) = F16 := by simp only [F7, h0, h1, h2, h3, h4, h5, h6, h7, h8, h9, h10, h11, h12, h13, h14, cond_true, cond_false]
                                rw [e]
                                refine con_of (n := 9) Try.func7 rfl (ent Try.func7 (by kernel_rfl) rfl) (by show 1 ≤ Try.f7.ntmps; decide) (by kernel_rfl) trivial (fun cx hcx => ?_)
                                exact ret_of (T := T0) hT hm (f := 5000) (orc := [(oC7_0 a0), (oC7_1 a0), .d true, .d true, (oC7_2 a0), .d false, .d false, .d false, (oC7_9 a0), (oC7_10 a0), .d true, .d true, (oC7_11 a0), .d false, .d false, .d false, (oC7_21 a0), (oC7_22 a0), .d true, .d true, (oC7_23 a0), .d false, .d false, .d false, .call [] (.v (.bool F16)) []]) [] [] [] hcx
                                  (obs := [(oC7_3 a0), (oC7_4 a0), .eq (((F19 a0.1 a0.2.1 a0.2.2).2 : Int) == 0) true, (oC7_5 a0), (oC7_6 a0), (oC7_7 a0), (oC7_8 a0), (oC7_12 a0), (oC7_13 a0), (oC7_14 a0), .eq (((F21 a0.1 a0.2.1 a0.2.2).2 : Int) == 0) true, (oC7_15 a0), (oC7_16 a0), (oC7_17 a0), (oC7_19 a0), (oC7_24 a0), (oC7_25 a0), (oC7_26 a0), .eq (((F26 a0.1 a0.2.1 a0.2.2).2 : Int) == 0) true, (oC7_27 a0), (oC7_28 a0), (oC7_30 a0), (oC7_32 a0), (oC7_34 a0), .call 16 [] [] (.v (.bool F16)) []]) (by kernel_rfl) ⟨(C19 a0.1 a0.2.1 a0.2.2), (C19 a0.1 a0.2.1 (W (a0.2.2 + 1))), h0, h1, (C25 (F19 a0.1 a0.2.1 (W (a0.2.2 + 1))).1 (F19 a0.1 a0.2.1 a0.2.2).1), h2, h3, h4, (C21 a0.1 a0.2.1 a0.2.2), (C21 a0.1 a0.2.1 (W (a0.2.2 + 1))), h5, h6, (C25 (F21 a0.1 a0.2.1 (W (a0.2.2 + 1))).1 (F21 a0.1 a0.2.1 a0.2.2).1), h7, h8, h9, (C26 a0.1 a0.2.1 a0.2.2), (C26 a0.1 a0.2.1 (W (a0.2.2 + 1))), h10, h11, (C25 (F26 a0.1 a0.2.1 (W (a0.2.2 + 1))).1 (F26 a0.1 a0.2.1 a0.2.2).1), h12, h13, h14, (C16), trivial⟩
                        | false =>
                          have q0 := eq_of_beq h0
                          have q1 := bne_iff_ne.1 h1
                          have q2 := bne_eq_false_iff_eq.1 h2
                          have q3 := bne_eq_false_iff_eq.1 h3
                          have q5 := eq_of_beq h5
                          have q6 := bne_iff_ne.1 h6
                          have q7 := bne_eq_false_iff_eq.1 h7
                          have q8 := bne_eq_false_iff_eq.1 h8
                          have q10 := eq_of_beq h10
                          have q11 := bne_eq_false_iff_eq.1 h11
                          have e : (F7 a0) = F16 := by simp only [F7, h0, h1, h2, h3, h4, h5, h6, h7, h8, h9, h10, h11, cond_true, cond_false]
                          rw [e]
                          refine con_of (n := 9) Try.func7 rfl (ent Try.func7 (by kernel_rfl) rfl) (by show 1 ≤ Try.f7.ntmps; decide) (by kernel_rfl) trivial (fun cx hcx => ?_)
                          exact ret_of (T := T0) hT hm (f := 5000) (orc := [(oC7_0 a0), (oC7_1 a0), .d true, .d true, (oC7_2 a0), .d false, .d false, .d false, (oC7_9 a0), (oC7_10 a0), .d true, .d true, (oC7_11 a0), .d false, .d false, .d false, (oC7_21 a0), (oC7_22 a0), .d true, .d false, .call [] (.v (.bool F16)) []]) [] [] [] hcx
                            (obs := [(oC7_3 a0), (oC7_4 a0), .eq (((F19 a0.1 a0.2.1 a0.2.2).2 : Int) == 0) true, (oC7_5 a0), (oC7_6 a0), (oC7_7 a0), (oC7_8 a0), (oC7_12 a0), (oC7_13 a0), (oC7_14 a0), .eq (((F21 a0.1 a0.2.1 a0.2.2).2 : Int) == 0) true, (oC7_15 a0), (oC7_16 a0), (oC7_17 a0), (oC7_19 a0), (oC7_24 a0), (oC7_25 a0), (oC7_26 a0), .eq (((F26 a0.1 a0.2.1 a0.2.2).2 : Int) == 0) true, (oC7_35 a0), .call 16 [] [] (.v (.bool F16)) []]) (by kernel_rfl) ⟨(C19 a0.1 a0.2.1 a0.2.2), (C19 a0.1 a0.2.1 (W (a0.2.2 + 1))), h0, h1, (C25 (F19 a0.1 a0.2.1 (W (a0.2.2 + 1))).1 (F19 a0.1 a0.2.1 a0.2.2).1), h2, h3, h4, (C21 a0.1 a0.2.1 a0.2.2), (C21 a0.1 a0.2.1 (W (a0.2.2 + 1))), h5, h6, (C25 (F21 a0.1 a0.2.1 (W (a0.2.2 + 1))).1 (F21 a0.1 a0.2.1 a0.2.2).1), h7, h8, h9, (C26 a0.1 a0.2.1 a0.2.2), (C26 a0.1 a0.2.1 (W (a0.2.2 + 1))), h10, h11, (C16), trivial⟩
                      | false =>
                        have q0 := eq_of_beq h0
                        have q1 := bne_iff_ne.1 h1
                        have q2 := bne_eq_false_iff_eq.1 h2
                        have q3 := bne_eq_false_iff_eq.1 h3
                        have q5 := eq_of_beq h5
                        have q6 := bne_iff_ne.1 h6
                        have q7 := bne_eq_false_iff_eq.1 h7
                        have q8 := bne_eq_false_iff_eq.1 h8
                        have q10 := ne_of_beq_false h10
                        have e : (F7 a0) = F16 := by simp only [F7, h0, h1, h2, h3, h4, h5, h6, h7, h8, h9, h10, cond_true, cond_false]
                        rw [e]
                        refine con_of (n := 9) Try.func7 rfl (ent Try.func7 (by kernel_rfl) rfl) (by show 1 ≤ Try.f7.ntmps; decide) (by kernel_rfl) trivial (fun cx hcx => ?_)
                        exact ret_of (T := T0) hT hm (f := 5000) (orc := [(oC7_0 a0), (oC7_1 a0), .d true, .d true, (oC7_2 a0), .d false, .d false, .d false, (oC7_9 a0), (oC7_10 a0), .d true, .d true, (oC7_11 a0), .d false, .d false, .d false, (oC7_21 a0), (oC7_22 a0), .d false, .call [] (.v (.bool F16)) []]) [] [] [] hcx
                          (obs := [(oC7_3 a0), (oC7_4 a0), .eq (((F19 a0.1 a0.2.1 a0.2.2).2 : Int) == 0) true, (oC7_5 a0), (oC7_6 a0), (oC7_7 a0), (oC7_8 a0), (oC7_12 a0), (oC7_13 a0), (oC7_14 a0), .eq (((F21 a0.1 a0.2.1 a0.2.2).2 : Int) == 0) true, (oC7_15 a0), (oC7_16 a0), (oC7_17 a0), (oC7_19 a0), (oC7_24 a0), (oC7_25 a0), (oC7_26 a0), .eq (((F26 a0.1 a0.2.1 a0.2.2).2 : Int) == 0) false, .call 16 [] [] (.v (.bool F16)) []]) (by kernel_rfl) ⟨(C19 a0.1 a0.2.1 a0.2.2), (C19 a0.1 a0.2.1 (W (a0.2.2 + 1))), h0, h1, (C25 (F19 a0.1 a0.2.1 (W (a0.2.2 + 1))).1 (F19 a0.1 a0.2.1 a0.2.2).1), h2, h3, h4, (C21 a0.1 a0.2.1 a0.2.2), (C21 a0.1 a0.2.1 (W (a0.2.2 + 1))), h5, h6, (C25 (F21 a0.1 a0.2.1 (W (a0.2.2 + 1))).1 (F21 a0.1 a0.2.1 a0.2.2).1), h7, h8, h9, (C26 a0.1 a0.2.1 a0.2.2), (C26 a0.1 a0.2.1 (W (a0.2.2 + 1))), h10, (C16), trivial⟩
              | false =>
                cases h7 : (((F26 a0.1 a0.2.1 a0.2.2).2 : Int) == 0) with
                | true =>
                  cases h8 : (((F26 a0.1 a0.2.1 (W (a0.2.2 + 1))).2 : Int) != 1) with
                  | true =>
                    cases h9 : (((F26 a0.1 a0.2.1 (W (a0.2.2 + 1))).2 : Int) != 0) with
                    | true =>
                      have q0 := eq_of_beq h0
                      have q1 := bne_iff_ne.1 h1
                      have q2 := bne_eq_false_iff_eq.1 h2
                      have q3 := bne_eq_false_iff_eq.1 h3
                      have q5 := eq_of_beq h5
                      have q6 := bne_eq_false_iff_eq.1 h6
                      have q7 := eq_of_beq h7
                      have q8 := bne_iff_ne.1 h8
                      have q9 := bne_iff_ne.1 h9
                      have e : (F7 a0) = false := by simp only [F7, h0, h1, h2, h3, h4, h5, h6, h7, h8, h9, cond_true, cond_false]
                      rw [e]
                      refine con_of (n := 9) Try.func7 rfl (ent Try.func7 (by kernel_rfl) rfl) (by show 1 ≤ Try.f7.ntmps; decide) (by kernel_rfl) trivial (fun cx hcx => ?_)
                      exact ret_of (T := T0) hT hm (f := 5000) (orc := [(oC7_0 a0), (oC7_1 a0), .d true, .d true, (oC7_2 a0), .d false, .d false, .d false, (oC7_9 a0), (oC7_10 a0), .d true, .d false, (oC7_21 a0), (oC7_22 a0), .d true, .d true, (oC7_23 a0), .d true]) [] [] [] hcx
                        (obs := [(oC7_3 a0), (oC7_4 a0), .eq (((F19 a0.1 a0.2.1 a0.2.2).2 : Int) == 0) true, (oC7_5 a0), (oC7_6 a0), (oC7_7 a0), (oC7_8 a0), (oC7_12 a0), (oC7_13 a0), (oC7_14 a0), .eq (((F21 a0.1 a0.2.1 a0.2.2).2 : Int) == 0) true, (oC7_36 a0), (oC7_25 a0), (oC7_26 a0), .eq (((F26 a0.1 a0.2.1 a0.2.2).2 : Int) == 0) true, (oC7_27 a0), (oC7_28 a0), (oC7_29 a0)]) (by kernel_rfl) ⟨(C19 a0.1 a0.2.1 a0.2.2), (C19 a0.1 a0.2.1 (W (a0.2.2 + 1))), h0, h1, (C25 (F19 a0.1 a0.2.1 (W (a0.2.2 + 1))).1 (F19 a0.1 a0.2.1 a0.2.2).1), h2, h3, h4, (C21 a0.1 a0.2.1 a0.2.2), (C21 a0.1 a0.2.1 (W (a0.2.2 + 1))), h5, h6, (C26 a0.1 a0.2.1 a0.2.2), (C26 a0.1 a0.2.1 (W (a0.2.2 + 1))), h7, h8, (C25 (F26 a0.1 a0.2.1 (W (a0.2.2 + 1))).1 (F26 a0.1 a0.2.1 a0.2.2).1), h9, trivial⟩
                    | false =>
                      cases h10 : (((F25 (F26 a0.1 a0.2.1 (W (a0.2.2 + 1))).1 (F26 a0.1 a0.2.1 a0.2.2).1).2 : Int) != 0) with
                      | true =>
                        have q0 := eq_of_beq h0
                        have q1 := bne_iff_ne.1 h1
                        have q2 := bne_eq_false_iff_eq.1 h2
                        have q3 := bne_eq_false_iff_eq.1 h3
                        have q5 := eq_of_beq h5
                        have q6 := bne_eq_false_iff_eq.1 h6
                        have q7 := eq_of_beq h7
                        have q8 := bne_iff_ne.1 h8
                        have q9 := bne_eq_false_iff_eq.1 h9
                        have q10 := bne_iff_ne.1 h10
                        have e : (F7 a0) = false := by simp only [F7, h0, h1, h2, h3, h4, h5, h6, h7, h8, h9, h10, cond_true, cond_false]
                        rw [e]
                        refine con_of (n := 9) Try.func7 rfl (ent Try.func7 (by kernel_rfl) rfl) (by show 1 ≤ Try.f7.ntmps; decide) (by kernel_rfl) trivial (fun cx hcx => ?_)
                        exact ret_of (T := T0) hT hm (f := 5000) (orc := [(oC7_0 a0), (oC7_1 a0), .d true, .d true, (oC7_2 a0), .d false, .d false, .d false, (oC7_9 a0), (oC7_10 a0), .d true, .d false, (oC7_21 a0), (oC7_22 a0), .d true, .d true, (oC7_23 a0), .d false, .d true]) [] [] [] hcx
                          (obs := [(oC7_3 a0), (oC7_4 a0), .eq (((F19 a0.1 a0.2.1 a0.2.2).2 : Int) == 0) true, (oC7_5 a0), (oC7_6 a0), (oC7_7 a0), (oC7_8 a0), (oC7_12 a0), (oC7_13 a0), (oC7_14 a0), .eq (((F21 a0.1 a0.2.1 a0.2.2).2 : Int) == 0) true, (oC7_36 a0), (oC7_25 a0), (oC7_26 a0), .eq (((F26 a0.1 a0.2.1 a0.2.2).2 : Int) == 0) true, (oC7_27 a0), (oC7_28 a0), (oC7_30 a0), (oC7_31 a0)]) (by kernel_rfl) ⟨(C19 a0.1 a0.2.1 a0.2.2), (C19 a0.1 a0.2.1 (W (a0.2.2 + 1))), h0, h1, (C25 (F19 a0.1 a0.2.1 (W (a0.2.2 + 1))).1 (F19 a0.1 a0.2.1 a0.2.2).1), h2, h3, h4, (C21 a0.1 a0.2.1 a0.2.2), (C21 a0.1 a0.2.1 (W (a0.2.2 + 1))), h5, h6, (C26 a0.1 a0.2.1 a0.2.2), (C26 a0.1 a0.2.1 (W (a0.2.2 + 1))), h7, h8, (C25 (F26 a0.1 a0.2.1 (W (a0.2.2 + 1))).1 (F26 a0.1 a0.2.1 a0.2.2).1), h9, h10, trivial⟩
                      | false =>
                        cases h11 : (!(F25 (F26 a0.1 a0.2.1 (W (a0.2.2 + 1))).1 (F26 a0.1 a0.2.1 a0.2.2).1).1) with
                        | true =>
                          have q0 := eq_of_beq h0
                          have q1 := bne_iff_ne.1 h1
                          have q2 := bne_eq_false_iff_eq.1 h2
                          have q3 := bne_eq_false_iff_eq.1 h3
                          have q5 := eq_of_beq h5
                          have q6 := bne_eq_false_iff_eq.1 h6
                          have q7 := eq_of_beq h7
                          have q8 := bne_iff_ne.1 h8
                          have q9 := bne_eq_false_iff_eq.1 h9
                          have q10 := bne_eq_false_iff_eq.1 h10
                          have e : (F7 a0) = false := by simp only [F7, h0, h1, h2, h3, h4, h5, h6, h7, h8, h9, h10, h11, cond_true, cond_false]
                          rw [e]
                          refine con_of (n := 9) Try.func7 rfl (ent Try.func7 (by kernel_rfl) rfl) (by show 1 ≤ Try.f7.ntmps; decide) (by kernel_rfl) trivial (fun cx hcx => ?_)
                          exact ret_of (T := T0) hT hm (f := 5000) (orc := [(oC7_0 a0), (oC7_1 a0), .d true, .d true, (oC7_2 a0), .d false, .d false, .d false, (oC7_9 a0), (oC7_10 a0), .d true, .d false, (oC7_21 a0), (oC7_22 a0), .d true, .d true, (oC7_23 a0), .d false, .d false, .d true]) [] [] [] hcx
                            (obs := [(oC7_3 a0), (oC7_4 a0), .eq (((F19 a0.1 a0.2.1 a0.2.2).2 : Int) == 0) true, (oC7_5 a0), (oC7_6 a0), (oC7_7 a0), (oC7_8 a0), (oC7_12 a0), (oC7_13 a0), (oC7_14 a0), .eq (((F21 a0.1 a0.2.1 a0.2.2).2 : Int) == 0) true, (oC7_36 a0), (oC7_25 a0), (oC7_26 a0), .eq (((F26 a0.1 a0.2.1 a0.2.2).2 : Int) == 0) true, (oC7_27 a0), (oC7_28 a0), (oC7_30 a0), (oC7_32 a0), (oC7_33 a0)]) (by kernel_rfl) ⟨(C19 a0.1 a0.2.1 a0.2.2), (C19 a0.1 a0.2.1 (W (a0.2.2 + 1))), h0, h1, (C25 (F19 a0.1 a0.2.1 (W (a0.2.2 + 1))).1 (F19 a0.1 a0.2.1 a0.2.2).1), h2, h3, h4, (C21 a0.1 a0.2.1 a0.2.2), (C21 a0.1 a0.2.1 (W (a0.2.2 + 1))), h5, h6, (C26 a0.1 a0.2.1 a0.2.2), (C26 a0.1 a0.2.1 (W (a0.2.2 + 1))), h7, h8, (C25 (F26 a0.1 a0.2.1 (W (a0.2.2 + 1))).1 (F26 a0.1 a0.2.1 a0.2.2).1), h9, h10, h11, trivial⟩
                        | false =>
                          have q0 := eq_of_beq h0
                          have q1 := bne_iff_ne.1 h1
                          have q2 := bne_eq_false_iff_eq.1 h2
                          have q3 := bne_eq_false_iff_eq.1 h3
                          have q5 := eq_of_beq h5
                          have q6 := bne_eq_false_iff_eq.1 h6
                          have q7 := eq_of_beq h7
                          have q8 := bne_iff_ne.1 h8
                          have q9 := bne_eq_false_iff_eq.1 h9
                          have q10 := bne_eq_false_iff_eq.1 h10
                          have e : (F7 a0) = F16 := by simp only [F7, h0, h1, h2, h3, h4, h5, h6, h7, h8, h9, h10, h11, cond_true, cond_false]
                          rw [e]
                          refine con_of (n := 9) Try.func7 rfl (ent Try.func7 (by kernel_rfl) rfl) (by show 1 ≤ Try.f7.ntmps; decide) (by kernel_rfl) trivial (fun cx hcx => ?_)
                          exact ret_of (T := T0) hT hm (f := 5000) (orc := [(oC7_0 a0), (oC7_1 a0), .d true, .d true, (oC7_2 a0), .d false, .d false, .d false, (oC7_9 a0), (oC7_10 a0), .d true, .d false, (oC7_21 a0), (oC7_22 a0), .d true, .d true, (oC7_23 a0), .d false, .d false, .d false, .call [] (.v (.bool F16)) []]) [] [] [] hcx
                            (obs := [(oC7_3 a0), (oC7_4 a0), .eq (((F19 a0.1 a0.2.1 a0.2.2).2 : Int) == 0) true, (oC7_5 a0), (oC7_6 a0), (oC7_7 a0), (oC7_8 a0), (oC7_12 a0), (oC7_13 a0), (oC7_14 a0), .eq (((F21 a0.1 a0.2.1 a0.2.2).2 : Int) == 0) true, (oC7_36 a0), (oC7_25 a0), (oC7_26 a0), .eq (((F26 a0.1 a0.2.1 a0.2.2).2 : Int) == 0) true, (oC7_27 a0), (oC7_28 a0), (oC7_30 a0), (oC7_32 a0), (oC7_34 a0), .call 16 [] [] (.v (.bool F16)) []]) (by kernel_rfl) ⟨(C19 a0.1 a0.2.1 a0.2.2), (C19 a0.1 a0.2.1 (W (a0.2.2 + 1))), h0, h1, (C25 (F19 a0.1 a0.2.1 (W (a0.2.2 + 1))).1 (F19 a0.1 a0.2.1 a0.2.2).1), h2, h3, h4, (C21 a0.1 a0.2.1 a0.2.2), (C21 a0.1 a0.2.1 (W (a0.2.2 + 1))), h5, h6, (C26 a0.1 a0.2.1 a0.2.2), (C26 a0.1 a0.2.1 (W (a0.2.2 + 1))), h7, h8, (C25 (F26 a0.1 a0.2.1 (W (a0.2.2 + 1))).1 (F26 a0.1 a0.2.1 a0.2.2).1), h9, h10, h11, (C16), trivial⟩
                  | false =>
                    have q0 := eq_of_beq h0
                    have q1 := bne_iff_ne.1 h1
                    have q2 := bne_eq_false_iff_eq.1 h2
                    have q3 := bne_eq_false_iff_eq.1 h3
                    have q5 := eq_of_beq h5
                    have q6 := bne_eq_false_iff_eq.1 h6
                    have q7 := eq_of_beq h7
                    have q8 := bne_eq_false_iff_eq.1 h8
                    have e : (F7 a0) = F16 := by simp only [F7, h0, h1, h2, h3, h4, h5, h6, h7, h8, cond_true, cond_false]
                    rw [e]
                    refine con_of (n := 9) Try.func7 rfl (ent Try.func7 (by kernel_rfl) rfl) (by show 1 ≤ Try.f7.ntmps; decide) (by kernel_rfl) trivial (fun cx hcx => ?_)
                    exact ret_of (T := T0) hT hm (f := 5000) (orc := [(oC7_0 a0), (oC7_1 a0), .d true, .d true, (oC7_2 a0), .d false, .d false, .d false, (oC7_9 a0), (oC7_10 a0), .d true, .d false, (oC7_21 a0), (oC7_22 a0), .d true, .d false, .call [] (.v (.bool F16)) []]) [] [] [] hcx
                      (obs := [(oC7_3 a0), (oC7_4 a0), .eq (((F19 a0.1 a0.2.1 a0.2.2).2 : Int) == 0) true, (oC7_5 a0), (oC7_6 a0), (oC7_7 a0), (oC7_8 a0), (oC7_12 a0), (oC7_13 a0), (oC7_14 a0), .eq (((F21 a0.1 a0.2.1 a0.2.2).2 : Int) == 0) true, (oC7_36 a0), (oC7_25 a0), (oC7_26 a0), .eq (((F26 a0.1 a0.2.1 a0.2.2).2 : Int) == 0) true, (oC7_35 a0), .call 16 [] [] (.v (.bool F16)) []]) (by kernel_rfl) ⟨(C19 a0.1 a0.2.1 a0.2.2), (C19 a0.1 a0.2.1 (W (a0.2.2 + 1))), h0, h1, (C25 (F19 a0.1 a0.2.1 (W (a0.2.2 + 1))).1 (F19 a0.1 a0.2.1 a0.2.2).1), h2, h3, h4, (C21 a0.1 a0.2.1 a0.2.2), (C21 a0.1 a0.2.1 (W (a0.2.2 + 1))), h5, h6, (C26 a0.1 a0.2.1 a0.2.2), (C26 a0.1 a0.2.1 (W (a0.2.2 + 1))), h7, h8, (C16), trivial⟩
                | false =>
                  have q0 := eq_of_beq h0
                  have q1 := bne_iff_ne.1 h1
                  have q2 := bne_eq_false_iff_eq.1 h2
                  have q3 := bne_eq_false_iff_eq.1 h3
                  have q5 := eq_of_beq h5
                  have q6 := bne_eq_false_iff_eq.1 h6
                  have q7 := ne_of_beq_false h7
                  have e : (F7 a0) = F16 := by simp only [F7, h0, h1, h2, h3, h4, h5, h6, h7, cond_true, cond_false]
                  rw [e]
                  refine con_of (n := 9) Try.func7 rfl (ent Try.func7 (by kernel_rfl) rfl) (by show 1 ≤ Try.f7.ntmps; decide) (by kernel_rfl) trivial (fun cx hcx => ?_)
                  exact ret_of (T := T0) hT hm (f := 5000) (orc := [(oC7_0 a0), (oC7_1 a0), .d true, .d true, (oC7_2 a0), .d false, .d false, .d false, (oC7_9 a0), (oC7_10 a0), .d true, .d false, (oC7_21 a0), (oC7_22 a0), .d false, .call [] (.v (.bool F16)) []]) [] [] [] hcx
                    (obs := [(oC7_3 a0), (oC7_4 a0), .eq (((F19 a0.1 a0.2.1 a0.2.2).2 : Int) == 0) true, (oC7_5 a0), (oC7_6 a0), (oC7_7 a0), (oC7_8 a0), (oC7_12 a0), (oC7_13 a0), (oC7_14 a0), .eq (((F21 a0.1 a0.2.1 a0.2.2).2 : Int) == 0) true, (oC7_36 a0), (oC7_25 a0), (oC7_26 a0), .eq (((F26 a0.1 a0.2.1 a0.2.2).2 : Int) == 0) false, .call 16 [] [] (.v (.bool F16)) []]) (by kernel_rfl) ⟨(C19 a0.1 a0.2.1 a0.2.2), (C19 a0.1 a0.2.1 (W (a0.2.2 + 1))), h0, h1, (C25 (F19 a0.1 a0.2.1 (W (a0.2.2 + 1))).1 (F19 a0.1 a0.2.1 a0.2.2).1), h2, h3, h4, (C21 a0.1 a0.2.1 a0.2.2), (C21 a0.1 a0.2.1 (W (a0.2.2 + 1))), h5, h6, (C26 a0.1 a0.2.1 a0.2.2), (C26 a0.1 a0.2.1 (W (a0.2.2 + 1))), h7, (C16), trivial⟩
            | false =>
              cases h6 : (((F26 a0.1 a0.2.1 a0.2.2).2 : Int) == 0) with
              | true =>
                cases h7 : (((F26 a0.1 a0.2.1 (W (a0.2.2 + 1))).2 : Int) != 1) with
                | true =>
                  cases h8 : (((F26 a0.1 a0.2.1 (W (a0.2.2 + 1))).2 : Int) != 0) with
                  | true =>
                    have q0 := eq_of_beq h0
                    have q1 := bne_iff_ne.1 h1
                    have q2 := bne_eq_false_iff_eq.1 h2
                    have q3 := bne_eq_false_iff_eq.1 h3
                    have q5 := ne_of_beq_false h5
                    have q6 := eq_of_beq h6
                    have q7 := bne_iff_ne.1 h7
                    have q8 := bne_iff_ne.1 h8
                    have e : (F7 a0) = false := by simp only [F7, h0, h1, h2, h3, h4, h5, h6, h7, h8, cond_true, cond_false]
                    rw [e]
                    refine con_of (n := 9) Try.func7 rfl (ent Try.func7 (by kernel_rfl) rfl) (by show 1 ≤ Try.f7.ntmps; decide) (by kernel_rfl) trivial (fun cx hcx => ?_)
                    exact ret_of (T := T0) hT hm (f := 5000) (orc := [(oC7_0 a0), (oC7_1 a0), .d true, .d true, (oC7_2 a0), .d false, .d false, .d false, (oC7_9 a0), (oC7_10 a0), .d false, (oC7_21 a0), (oC7_22 a0), .d true, .d true, (oC7_23 a0), .d true]) [] [] [] hcx
                      (obs := [(oC7_3 a0), (oC7_4 a0), .eq (((F19 a0.1 a0.2.1 a0.2.2).2 : Int) == 0) true, (oC7_5 a0), (oC7_6 a0), (oC7_7 a0), (oC7_8 a0), (oC7_12 a0), (oC7_13 a0), (oC7_14 a0), .eq (((F21 a0.1 a0.2.1 a0.2.2).2 : Int) == 0) false, (oC7_25 a0), (oC7_26 a0), .eq (((F26 a0.1 a0.2.1 a0.2.2).2 : Int) == 0) true, (oC7_27 a0), (oC7_28 a0), (oC7_29 a0)]) (by kernel_rfl) ⟨(C19 a0.1 a0.2.1 a0.2.2), (C19 a0.1 a0.2.1 (W (a0.2.2 + 1))), h0, h1, (C25 (F19 a0.1 a0.2.1 (W (a0.2.2 + 1))).1 (F19 a0.1 a0.2.1 a0.2.2).1), h2, h3, h4, (C21 a0.1 a0.2.1 a0.2.2), (C21 a0.1 a0.2.1 (W (a0.2.2 + 1))), h5, (C26 a0.1 a0.2.1 a0.2.2), (C26 a0.1 a0.2.1 (W (a0.2.2 + 1))), h6, h7, (C25 (F26 a0.1 a0.2.1 (W (a0.2.2 + 1))).1 (F26 a0.1 a0.2.1 a0.2.2).1), h8, trivial⟩
                  | false =>
                    cases h9 : (((F25 (F26 a0.1 a0.2.1 (W (a0.2.2 + 1))).1 (F26 a0.1 a0.2.1 a0.2.2).1).2 : Int) != 0) with
                    | true =>
                      have q0 := eq_of_beq h0
                      have q1 := bne_iff_ne.1 h1
                      have q2 := bne_eq_false_iff_eq.1 h2
                      have q3 := bne_eq_false_iff_eq.1 h3
                      have q5 := ne_of_beq_false h5
                      have q6 := eq_of_beq h6
                      have q7 := bne_iff_ne.1 h7
                      have q8 := bne_eq_false_iff_eq.1 h8
                      have q9 := bne_iff_ne.1 h9
                      have e : (F7 a0) = false := by simp only [F7, h0, h1, h2, h3, h4, h5, h6, h7, h8, h9, cond_true, cond_false]
                      rw [e]
                      refine con_of (n := 9) Try.func7 rfl (ent Try.func7 (by kernel_rfl) rfl) (by show 1 ≤ Try.f7.ntmps; decide) (by kernel_rfl) trivial (fun cx hcx => ?_)
                      exact ret_of (T := T0) hT hm (f := 5000) (orc := [(oC7_0 a0), (oC7_1 a0), .d true, .d true, (oC7_2 a0), .d false, .d false, .d false, (oC7_9 a0), (oC7_10 a0), .d false, (oC7_21 a0), (oC7_22 a0), .d true, .d true, (oC7_23 a0), .d false, .d true]) [] [] [] hcx
                        (obs := [(oC7_3 a0), (oC7_4 a0), .eq (((F19 a0.1 a0.2.1 a0.2.2).2 : Int) == 0) true, (oC7_5 a0), (oC7_6 a0), (oC7_7 a0), (oC7_8 a0), (oC7_12 a0), (oC7_13 a0), (oC7_14 a0), .eq (((F21 a0.1 a0.2.1 a0.2.2).2 : Int) == 0) false, (oC7_25 a0), (oC7_26 a0), .eq (((F26 a0.1 a0.2.1 a0.2.2).2 : Int) == 0) true, (oC7_27 a0), (oC7_28 a0), (oC7_30 a0), (oC7_31 a0)]) (by kernel_rfl) ⟨(C19 a0.1 a0.2.1 a0.2.2), (C19 a0.1 a0.2.1 (W (a0.2.2 + 1))), h0, h1, (C25 (F19 a0.1 a0.2.1 (W (a0.2.2 + 1))).1 (F19 a0.1 a0.2.1 a0.2.2).1), h2, h3, h4, (C21 a0.1 a0.2.1 a0.2.2), (C21 a0.1 a0.2.1 (W (a0.2.2 + 1))), h5, (C26 a0.1 a0.2.1 a0.2.2), (C26 a0.1 a0.2.1 (W (a0.2.2 + 1))), h6, h7, (C25 (F26 a0.1 a0.2.1 (W (a0.2.2 + 1))).1 (F26 a0.1 a0.2.1 a0.2.2).1), h8, h9, trivial⟩
                    | false =>
                      cases h10 : (!(F25 (F26 a0.1 a0.2.1 (W (a0.2.2 + 1))).1 (F26 a0.1 a0.2.1 a0.2.2).1).1) with
                      | true =>
                        have q0 := eq_of_beq h0
                        have q1 := bne_iff_ne.1 h1
                        have q2 := bne_eq_false_iff_eq.1 h2
                        have q3 := bne_eq_false_iff_eq.1 h3
                        have q5 := ne_of_beq_false h5
                        have q6 := eq_of_beq h6
                        have q7 := bne_iff_ne.1 h7
                        have q8 := bne_eq_false_iff_eq.1 h8
                        have q9 := bne_eq_false_iff_eq.1 h9
                        have e : (F7 a0) = false := by simp only [F7, h0, h1, h2, h3, h4, h5, h6, h7, h8, h9, h10, cond_true, cond_false]
                        rw [e]
                        refine con_of (n := 9) Try.func7 rfl (ent Try.func7 (by kernel_rfl) rfl) (by show 1 ≤ Try.f7.ntmps; decide) (by kernel_rfl) trivial (fun cx hcx => ?_)
                        exact ret_of (T := T0) hT hm (f := 5000) (orc := [(oC7_0 a0), (oC7_1 a0), .d true, .d true, (oC7_2 a0), .d false, .d false, .d false, (oC7_9 a0), (oC7_10 a0), .d false, (oC7_21 a0), (oC7_22 a0), .d true, .d true, (oC7_23 a0), .d false, .d false, .d true]) [] [] [] hcx
                          (obs := [(oC7_3 a0), (oC7_4 a0), .eq (((F19 a0.1 a0.2.1 a0.2.2).2 : Int) == 0) true, (oC7_5 a0), (oC7_6 a0), (oC7_7 a0), (oC7_8 a0), (oC7_12 a0), (oC7_13 a0), (oC7_14 a0), .eq (((F21 a0.1 a0.2.1 a0.2.2).2 : Int) == 0) false, (oC7_25 a0), (oC7_26 a0), .eq (((F26 a0.1 a0.2.1 a0.2.2).2 : Int) == 0) true, (oC7_27 a0), (oC7_28 a0), (oC7_30 a0), (oC7_32 a0), (oC7_33 a0)]) (by kernel_rfl) ⟨(C19 a0.1 a0.2.1 a0.2.2), (C19 a0.1 a0.2.1 (W (a0.2.2 + 1))), h0, h1, (C25 (F19 a0.1 a0.2.1 (W (a0.2.2 + 1))).1 (F19 a0.1 a0.2.1 a0.2.2).1), h2, h3, h4, (C21 a0.1 a0.2.1 a0.2.2), (C21 a0.1 a0.2.1 (W (a0.2.2 + 1))), h5, (C26 a0.1 a0.2.1 a0.2.2), (C26 a0.1 a0.2.1 (W (a0.2.2 + 1))), h6, h7, (C25 (F26 a0.1 a0.2.1 (W (a0.2.2 + 1))).1 (F26 a0.1 a0.2.1 a0.2.2).1), h8, h9, h10, trivial⟩
                      | false =>
                        have q0 := eq_of_beq h0
                        have q1 := bne_iff_ne.1 h1
                        have q2 := bne_eq_false_iff_eq.1 h2
                        have q3 := bne_eq_false_iff_eq.1 h3
                        have q5 := ne_of_beq_false h5
                        have q6 := eq_of_beq h6
                        have q7 := bne_iff_ne.1 h7
                        have q8 := bne_eq_false_iff_eq.1 h8
                        have q9 := bne_eq_false_iff_eq.1 h9
                        have e : (F7 a0) = F16 := by simp only [F7, h0, h1, h2, h3, h4, h5, h6, h7, h8, h9, h10, cond_true, cond_false]
                        rw [e]
                        refine con_of (n := 9) Try.func7 rfl (ent Try.func7 (by kernel_rfl) rfl) (by show 1 ≤ Try.f7.ntmps; decide) (by kernel_rfl) trivial (fun cx hcx => ?_)
                        exact ret_of (T := T0) hT hm (f := 5000) (orc := [(oC7_0 a0), (oC7_1 a0), .d true, .d true, (oC7_2 a0), .d false, .d false, .d false, (oC7_9 a0), (oC7_10 a0), .d false, (oC7_21 a0), (oC7_22 a0), .d true, .d true, (oC7_23 a0), .d false, .d false, .d false, .call [] (.v (.bool F16)) []]) [] [] [] hcx
                          (obs := [(oC7_3 a0), (oC7_4 a0), .eq (((F19 a0.1 a0.2.1 a0.2.2).2 : Int) == 0) true, (oC7_5 a0), (oC7_6 a0), (oC7_7 a0), (oC7_8 a0), (oC7_12 a0), (oC7_13 a0), (oC7_14 a0), .eq (((F21 a0.1 a0.2.1 a0.2.2).2 : Int) == 0) false, (oC7_25 a0), (oC7_26 a0), .eq (((F26 a0.1 a0.2.1 a0.2.2).2 : Int) == 0) true, (oC7_27 a0), (oC7_28 a0), (oC7_30 a0), (oC7_32 a0), (oC7_34 a0), .call 16 [] [] (.v (.bool F16)) []]) (by kernel_rfl) ⟨(C19 a0.1 a0.2.1 a0.2.2), (C19 a0.1 a0.2.1 (W (a0.2.2 + 1))), h0, h1, (C25 (F19 a0.1 a0.2.1 (W (a0.2.2 + 1))).1 (F19 a0.1 a0.2.1 a0.2.2).1), h2, h3, h4, (C21 a0.1 a0.2.1 a0.2.2), (C21 a0.1 a0.2.1 (W (a0.2.2 + 1))), h5, (C26 a0.1 a0.2.1 a0.2.2), (C26 a0.1 a0.2.1 (W (a0.2.2 + 1))), h6, h7, (C25 (F26 a0.1 a0.2.1 (W (a0.2.2 + 1))).1 (F26 a0.1 a0.2.1 a0.2.2).1), h8, h9, h10, (C16), trivial⟩
                | false =>
                  have q0 := eq_of_beq h0
                  have q1 := bne_iff_ne.1 h1
                  have q2 := bne_eq_false_iff_eq.1 h2
                  have q3 := bne_eq_false_iff_eq.1 h3
                  have q5 := ne_of_beq_false h5
                  have q6 := eq_of_beq h6
                  have q7 := bne_eq_false_iff_eq.1 h7
                  have e : (F7 a0) = F16 := by simp only [F7, h0, h1, h2, h3, h4, h5, h6, h7, cond_true, cond_false]
                  rw [e]
                  refine con_of (n := 9) Try.func7 rfl (ent Try.func7 (by kernel_rfl) rfl) (by show 1 ≤ Try.f7.ntmps; decide) (by kernel_rfl) trivial (fun cx hcx => ?_)
                  exact ret_of (T := T0) hT hm (f := 5000) (orc := [(oC7_0 a0), (oC7_1 a0), .d true, .d true, (oC7_2 a0), .d false, .d false, .d false, (oC7_9 a0), (oC7_10 a0), .d false, (oC7_21 a0), (oC7_22 a0), .d true, .d false, .call [] (.v (.bool F16)) []]) [] [] [] hcx
                    (obs := [(oC7_3 a0), (oC7_4 a0), .eq (((F19 a0.1 a0.2.1 a0.2.2).2 : Int) == 0) true, (oC7_5 a0), (oC7_6 a0), (oC7_7 a0), (oC7_8 a0), (oC7_12 a0), (oC7_13 a0), (oC7_14 a0), .eq (((F21 a0.1 a0.2.1 a0.2.2).2 : Int) == 0) false, (oC7_25 a0), (oC7_26 a0), .eq (((F26 a0.1 a0.2.1 a0.2.2).2 : Int) == 0) true, (oC7_35 a0), .call 16 [] [] (.v (.bool F16)) []]) (by kernel_rfl) ⟨(C19 a0.1 a0.2.1 a0.2.2), (C19 a0.1 a0.2.1 (W (a0.2.2 + 1))), h0, h1, (C25 (F19 a0.1 a0.2.1 (W (a0.2.2 + 1))).1 (F19 a0.1 a0.2.1 a0.2.2).1), h2, h3, h4, (C21 a0.1 a0.2.1 a0.2.2), (C21 a0.1 a0.2.1 (W (a0.2.2 + 1))), h5, (C26 a0.1 a0.2.1 a0.2.2), (C26 a0.1 a0.2.1 (W (a0.2.2 + 1))), h6, h7, (C16), trivial⟩
              | false =>
                have q0 := eq_of_beq h0
                have q1 := bne_iff_ne.1 h1
                have q2 := bne_eq_false_iff_eq.1 h2
                have q3 := bne_eq_false_iff_eq.1 h3
                have q5 := ne_of_beq_false h5
                have q6 := ne_of_beq_false h6
                have e : (F7 a0) = F16 := by simp only [F7, h0, h1, h2, h3, h4, h5, h6, cond_true, cond_false]
                rw [e]
                refine con_of (n := 9) Try.func7 rfl (ent Try.func7 (by kernel_rfl) rfl) (by show 1 ≤ Try.f7.ntmps; decide) (by kernel_rfl) trivial (fun cx hcx => ?_)
                exact ret_of (T := T0) hT hm (f := 5000) (orc := [(oC7_0 a0), (oC7_1 a0), .d true, .d true, (oC7_2 a0), .d false, .d false, .d false, (oC7_9 a0), (oC7_10 a0), .d false, (oC7_21 a0), (oC7_22 a0), .d false, .call [] (.v (.bool F16)) []]) [] [] [] hcx
                  (obs := [(oC7_3 a0), (oC7_4 a0), .eq (((F19 a0.1 a0.2.1 a0.2.2).2 : Int) == 0) true, (oC7_5 a0), (oC7_6 a0), (oC7_7 a0), (oC7_8 a0), (oC7_12 a0), (oC7_13 a0), (oC7_14 a0), .eq (((F21 a0.1 a0.2.1 a0.2.2).2 : Int) == 0) false, (oC7_25 a0), (oC7_26 a0), .eq (((F26 a0.1 a0.2.1 a0.2.2).2 : Int) == 0) false, .call 16 [] [] (.v (.bool F16)) []]) (by kernel_rfl) ⟨(C19 a0.1 a0.2.1 a0.2.2), (C19 a0.1 a0.2.1 (W (a0.2.2 + 1))), h0, h1, (C25 (F19 a0.1 a0.2.1 (W (a0.2.2 + 1))).1 (F19 a0.1 a0.2.1 a0.2.2).1), h2, h3, h4, (C21 a0.1 a0.2.1 a0.2.2), (C21 a0.1 a0.2.1 (W (a0.2.2 + 1))), h5, (C26 a0.1 a0.2.1 a0.2.2), (C26 a0.1 a0.2.1 (W (a0.2.2 + 1))), h6, (C16), trivial⟩
    | false =>
      cases h2 : (((F21 a0.1 a0.2.1 a0.2.2).2 : Int) == 0) with
      | true =>
        cases h3 : (((F21 a0.1 a0.2.1 (W (a0.2.2 + 1))).2 : Int) != 1) with
        | true =>
          cases h4 : (((F21 a0.1 a0.2.1 (W (a0.2.2 + 1))).2 : Int) != 0) with
          | true =>
            have q0 := eq_of_beq h0
            have q1 := bne_eq_false_iff_eq.1 h1
            have q2 := eq_of_beq h2
            have q3 := bne_iff_ne.1 h3
            have q4 := bne_iff_ne.1 h4
            have e : (F7 a0) = false := by simp only [F7, h0, h1, h2, h3, h4, cond_true, cond_false]
            rw [e]
            refine con_of (n := 9) Try.func7 rfl (ent Try.func7 (by kernel_rfl) rfl) (by show 1 ≤ Try.f7.ntmps; decide) (by kernel_rfl) trivial (fun cx hcx => ?_)
            exact ret_of (T := T0) hT hm (f := 5000) (orc := [(oC7_0 a0), (oC7_1 a0), .d true, .d false, (oC7_9 a0), (oC7_10 a0), .d true, .d true, (oC7_11 a0), .d true]) [] [] [] hcx
              (obs := [(oC7_3 a0), (oC7_4 a0), .eq (((F19 a0.1 a0.2.1 a0.2.2).2 : Int) == 0) true, (oC7_37 a0), (oC7_13 a0), (oC7_14 a0), .eq (((F21 a0.1 a0.2.1 a0.2.2).2 : Int) == 0) true, (oC7_15 a0), (oC7_16 a0), .eq (((F21 a0.1 a0.2.1 (W (a0.2.2 + 1))).2 : Int) != 0) true]) (by kernel_rfl) ⟨(C19 a0.1 a0.2.1 a0.2.2), (C19 a0.1 a0.2.1 (W (a0.2.2 + 1))), h0, h1, (C21 a0.1 a0.2.1 a0.2.2), (C21 a0.1 a0.2.1 (W (a0.2.2 + 1))), h2, h3, (C25 (F21 a0.1 a0.2.1 (W (a0.2.2 + 1))).1 (F21 a0.1 a0.2.1 a0.2.2).1), h4, trivial⟩
          | false =>
            cases h5 : (((F25 (F21 a0.1 a0.2.1 (W (a0.2.2 + 1))).1 (F21 a0.1 a0.2.1 a0.2.2).1).2 : Int) != 0) with
            | true =>
              have q0 := eq_of_beq h0
              have q1 := bne_eq_false_iff_eq.1 h1
              have q2 := eq_of_beq h2
              have q3 := bne_iff_ne.1 h3
              have q4 := bne_eq_false_iff_eq.1 h4
              have q5 := bne_iff_ne.1 h5
              have e : (F7 a0) = false := by simp only [F7, h0, h1, h2, h3, h4, h5, cond_true, cond_false]
              rw [e]
              refine con_of (n := 9) Try.func7 rfl (ent Try.func7 (by kernel_rfl) rfl) (by show 1 ≤ Try.f7.ntmps; decide) (by kernel_rfl) trivial (fun cx hcx => ?_)
              exact ret_of (T := T0) hT hm (f := 5000) (orc := [(oC7_0 a0), (oC7_1 a0), .d true, .d false, (oC7_9 a0), (oC7_10 a0), .d true, .d true, (oC7_11 a0), .d false, .d true]) [] [] [] hcx
                (obs := [(oC7_3 a0), (oC7_4 a0), .eq (((F19 a0.1 a0.2.1 a0.2.2).2 : Int) == 0) true, (oC7_37 a0), (oC7_13 a0), (oC7_14 a0), .eq (((F21 a0.1 a0.2.1 a0.2.2).2 : Int) == 0) true, (oC7_15 a0), (oC7_16 a0), (oC7_17 a0), (oC7_18 a0)]) (by kernel_rfl) ⟨(C19 a0.1 a0.2.1 a0.2.2), (C19 a0.1 a0.2.1 (W (a0.2.2 + 1))), h0, h1, (C21 a0.1 a0.2.1 a0.2.2), (C21 a0.1 a0.2.1 (W (a0.2.2 + 1))), h2, h3, (C25 (F21 a0.1 a0.2.1 (W (a0.2.2 + 1))).1 (F21 a0.1 a0.2.1 a0.2.2).1), h4, h5, trivial⟩
            | false =>
              cases h6 : (!(F25 (F21 a0.1 a0.2.1 (W (a0.2.2 + 1))).1 (F21 a0.1 a0.2.1 a0.2.2).1).1) with
              | true =>
                have q0 := eq_of_beq h0
                have q1 := bne_eq_false_iff_eq.1 h1
                have q2 := eq_of_beq h2
                have q3 := bne_iff_ne.1 h3
                have q4 := bne_eq_false_iff_eq.1 h4
                have q5 := bne_eq_false_iff_eq.1 h5
                have e : (F7 a0) = false := by simp only [F7, h0, h1, h2, h3, h4, h5, h6, cond_true, cond_false]
                rw [e]
                refine con_of (n := 9) Try.func7 rfl (ent Try.func7 (by kernel_rfl) rfl) (by show 1 ≤ Try.f7.ntmps; decide) (by kernel_rfl) trivial (fun cx hcx => ?_)
                exact ret_of (T := T0) hT hm (f := 5000) (orc := [(oC7_0 a0), (oC7_1 a0), .d true, .d false, (oC7_9 a0), (oC7_10 a0), .d true, .d true, (oC7_11 a0), .d false, .d false, .d true]) [] [] [] hcx
                  (obs := [(oC7_3 a0), (oC7_4 a0), .eq (((F19 a0.1 a0.2.1 a0.2.2).2 : Int) == 0) true, (oC7_37 a0), (oC7_13 a0), (oC7_14 a0), .eq (((F21 a0.1 a0.2.1 a0.2.2).2 : Int) == 0) true, (oC7_15 a0), (oC7_16 a0), (oC7_17 a0), (oC7_19 a0), (oC7_20 a0)]) (by kernel_rfl) ⟨(C19 a0.1 a0.2.1 a0.2.2), (C19 a0.1 a0.2.1 (W (a0.2.2 + 1))), h0, h1, (C21 a0.1 a0.2.1 a0.2.2), (C21 a0.1 a0.2.1 (W (a0.2.2 + 1))), h2, h3, (C25 (F21 a0.1 a0.2.1 (W (a0.2.2 + 1))).1 (F21 a0.1 a0.2.1 a0.2.2).1), h4, h5, h6, trivial⟩
              | false =>
                cases h7 : (((F26 a0.1 a0.2.1 a0.2.2).2 : Int) == 0) with
                | true =>
                  cases h8 : (((F26 a0.1 a0.2.1 (W (a0.2.2 + 1))).2 : Int) != 1) with
                  | true =>
                    cases h9 : (((F26 a0.1 a0.2.1 (W (a0.2.2 + 1))).2 : Int) != 0) with
                    | true =>
                      have q0 := eq_of_beq h0
                      have q1 := bne_eq_false_iff_eq.1 h1
                      have q2 := eq_of_beq h2
                      have q3 := bne_iff_ne.1 h3
                      have q4 := bne_eq_false_iff_eq.1 h4
                      have q5 := bne_eq_false_iff_eq.1 h5
                      have q7 := eq_of_beq h7
                      have q8 := bne_iff_ne.1 h8
                      have q9 := bne_iff_ne.1 h9
                      have e : (F7 a0) = false := by simp only [F7, h0, h1, h2, h3, h4, h5, h6, h7, h8, h9, cond_true, cond_false]
                      rw [e]
                      refine con_of (n := 9) Try.func7 rfl (ent Try.func7 (by kernel_rfl) rfl) (by show 1 ≤ Try.f7.ntmps; decide) (by kernel_rfl) trivial (fun cx hcx => ?_)
                      exact ret_of (T := T0) hT hm (f := 5000) (orc := [(oC7_0 a0), (oC7_1 a0), .d true, .d false, (oC7_9 a0), (oC7_10 a0), .d true, .d true, (oC7_11 a0), .d false, .d false, .d false, (oC7_21 a0), (oC7_22 a0), .d true, .d true, (oC7_23 a0), .d true]) [] [] [] hcx
                        (obs := [(oC7_3 a0), (oC7_4 a0), .eq (((F19 a0.1 a0.2.1 a0.2.2).2 : Int) == 0) true, (oC7_37 a0), (oC7_13 a0), (oC7_14 a0), .eq (((F21 a0.1 a0.2.1 a0.2.2).2 : Int) == 0) true, (oC7_15 a0), (oC7_16 a0), (oC7_17 a0), (oC7_19 a0), (oC7_24 a0), (oC7_25 a0), (oC7_26 a0), .eq (((F26 a0.1 a0.2.1 a0.2.2).2 : Int) == 0) true, (oC7_27 a0), (oC7_28 a0), (oC7_29 a0)]) (by kernel_rfl) ⟨(C19 a0.1 a0.2.1 a0.2.2), (C19 a0.1 a0.2.1 (W (a0.2.2 + 1))), h0, h1, (C21 a0.1 a0.2.1 a0.2.2), (C21 a0.1 a0.2.1 (W (a0.2.2 + 1))), h2, h3, (C25 (F21 a0.1 a0.2.1 (W (a0.2.2 + 1))).1 (F21 a0.1 a0.2.1 a0.2.2).1), h4, h5, h6, (C26 a0.1 a0.2.1 a0.2.2), (C26 a0.1 a0.2.1 (W (a0.2.2 + 1))), h7, h8, (C25 (F26 a0.1 a0.2.1 (W (a0.2.2 + 1))).1 (F26 a0.1 a0.2.1 a0.2.2).1), h9, trivial⟩
                    | false =>
                      cases h10 : (((F25 (F26 a0.1 a0.2.1 (W (a0.2.2 + 1))).1 (F26 a0.1 a0.2.1 a0.2.2).1).2 : Int) != 0) with
                      | true =>
                        have q0 := eq_of_beq h0
                        have q1 := bne_eq_false_iff_eq.1 h1
                        have q2 := eq_of_beq h2
                        have q3 := bne_iff_ne.1 h3
                        have q4 := bne_eq_false_iff_eq.1 h4
                        have q5 := bne_eq_false_iff_eq.1 h5
                        have q7 := eq_of_beq h7
                        have q8 := bne_iff_ne.1 h8
                        have q9 := bne_eq_false_iff_eq.1 h9
                        have q10 := bne_iff_ne.1 h10
                        have e : (F7 a0) = false := by simp only [F7, h0, h1, h2, h3, h4, h5, h6, h7, h8, h9, h10, cond_true, cond_false]
                        rw [e]
                        refine con_of (n := 9) Try.func7 rfl (ent Try.func7 (by kernel_rfl) rfl) (by show 1 ≤ Try.f7.ntmps; decide) (by kernel_rfl) trivial (fun cx hcx => ?_)
                        exact ret_of (T := T0) hT hm (f := 5000) (orc := [(oC7_0 a0), (oC7_1 a0), .d true, .d false, (oC7_9 a0), (oC7_10 a0), .d true, .d true, (oC7_11 a0), .d false, .d false, .d false, (oC7_21 a0), (oC7_22 a0), .d true, .d true, (oC7_23 a0), .d false, .d true]) [] [] [] hcx
                          (obs := [(oC7_3 a0), (oC7_4 a0), .eq (((F19 a0.1 a0.2.1 a0.2.2).2 : Int) == 0) true, (oC7_37 a0), (oC7_13 a0), (oC7_14 a0), .eq (((F21 a0.1 a0.2.1 a0.2.2).2 : Int) == 0) true, (oC7_15 a0), (oC7_16 a0), (oC7_17 a0), (oC7_19 a0), (oC7_24 a0), (oC7_25 a0), (oC7_26 a0), .eq (((F26 a0.1 a0.2.1 a0.2.2).2 : Int) == 0) true, (oC7_27 a0), (oC7_28 a0), (oC7_30 a0), (oC7_31 a0)]) (by kernel_rfl) ⟨(C19 a0.1 a0.2.1 a0.2.2), (C19 a0.1 a0.2.1 (W (a0.2.2 + 1))), h0, h1, (C21 a0.1 a0.2.1 a0.2.2), (C21 a0.1 a0.2.1 (W (a0.2.2 + 1))), h2, h3, (C25 (F21 a0.1 a0.2.1 (W (a0.2.2 + 1))).1 (F21 a0.1 a0.2.1 a0.2.2).1), h4, h5, h6, (C26 a0.1 a0.2.1 a0.2.2), (C26 a0.1 a0.2.1 (W (a0.2.2 + 1))), h7, h8, (C25 (F26 a0.1 a0.2.1 (W (a0.2.2 + 1))).1 (F26 a0.1 a0.2.1 a0.2.2).1), h9, h10, trivial⟩
                      | false =>
                        cases h11 : (!(F25 (F26 a0.1 a0.2.1 (W (a0.2.2 + 1))).1 (F26 a0.1 a0.2.1 a0.2.2).1).1) with
                        | true =>
                          have q0 := eq_of_beq h0
                          have q1 := bne_eq_false_iff_eq.1 h1
                          have q2 := eq_of_beq h2
                          have q3 := bne_iff_ne.1 h3
                          have q4 := bne_eq_false_iff_eq.1 h4
                          have q5 := bne_eq_false_iff_eq.1 h5
                          have q7 := eq_of_beq h7
                          have q8 := bne_iff_ne.1 h8
                          have q9 := bne_eq_false_iff_eq.1 h9
                          have q10 := bne_eq_false_iff_eq.1 h10
                          have e : (F7 a0) = false := by simp only [F7, h0, h1, h2, h3, h4, h5, h6, h7, h8, h9, h10, h11, cond_true, cond_false]
                          rw [e]
                          refine con_of (n := 9) Try.func7 rfl (ent Try.func7 (by kernel_rfl) rfl) (by show 1 ≤ Try.f7.ntmps; decide) (by kernel_rfl) trivial (fun cx hcx => ?_)
                          exact ret_of (T := T0) hT hm (f := 5000) (orc := [(oC7_0 a0), (oC7_1 a0), .d true, .d false, (oC7_9 a0), (oC7_10 a0), .d true, .d true, (oC7_11 a0), .d false, .d false, .d false, (oC7_21 a0), (oC7_22 a0), .d true, .d true, (oC7_23 a0), .d false, .d false, .d true]) [] [] [] hcx
                            (obs := [(oC7_3 a0), (oC7_4 a0), .eq (((F19 a0.1 a0.2.1 a0.2.2).2 : Int) == 0) true, (oC7_37 a0), (oC7_13 a0), (oC7_14 a0), .eq (((F21 a0.1 a0.2.1 a0.2.2).2 : Int) == 0) true, (oC7_15 a0), (oC7_16 a0), (oC7_17 a0), (oC7_19 a0), (oC7_24 a0), (oC7_25 a0), (oC7_26 a0), .eq (((F26 a0.1 a0.2.1 a0.2.2).2 : Int) == 0) true, (oC7_27 a0), (oC7_28 a0), (oC7_30 a0), (oC7_32 a0), (oC7_33 a0)]) (by kernel_rfl) ⟨(C19 a0.1 a0.2.1 a0.2.2), (C19 a0.1 a0.2.1 (W (a0.2.2 + 1))), h0, h1, (C21 a0.1 a0.2.1 a0.2.2), (C21 a0.1 a0.2.1 (W (a0.2.2 + 1))), h2, h3, (C25 (F21 a0.1 a0.2.1 (W (a0.2.2 + 1))).1 (F21 a0.1 a0.2.1 a0.2.2).1), h4, h5, h6, (C26 a0.1 a0.2.1 a0.2.2), (C26 a0.1 a0.2.1 (W (a0.2.2 + 1))), h7, h8, (C25 (F26 a0.1 a0.2.1 (W (a0.2.2 + 1))).1 (F26 a0.1 a0.2.1 a0.2.2).1), h9, h10, h11, trivial⟩
                        | false =>
                          have q0 := eq_of_beq h0
                          have q1 := bne_eq_false_iff_eq.1 h1
                          have q2 := eq_of_beq h2
                          have q3 := bne_iff_ne.1 h3
                          have q4 := bne_eq_false_iff_eq.1 h4
                          have q5 := bne_eq_false_iff_eq.1 h5
                          have q7 := eq_of_beq h7
                          have q8 := bne_iff_ne.1 h8
                          have q9 := bne_eq_false_iff_eq.1 h9
                          have q10 := bne_eq_false_iff_eq.1 h10
                          have e : (F7 a0) = F16 := by simp only [F7, h0, h1, h2, h3, h4, h5, h6, h7, h8, h9, h10, h11, cond_true, cond_false]
                          rw [e]
                          refine con_of (n := 9) Try.func7 rfl (ent Try.func7 (by kernel_rfl) rfl) (by show 1 ≤ Try.f7.ntmps; decide) (by kernel_rfl) trivial (fun cx hcx => ?_)
                          exact ret_of (T := T0) hT hm (f := 5000) (orc := [(oC7_0 a0), (oC7_1 a0), .d true, .d false, (oC7_9 a0), (oC7_10 a0), .d true, .d true, (oC7_11 a0), .d false, .d false, .d false, (oC7_21 a0), (oC7_22 a0), .d true, .d true, (oC7_23 a0), .d false, .d false, .d false, .call [] (.v (.bool F16)) []]) [] [] [] hcx
                            (obs := [(oC7_3 a0), (oC7_4 a0), .eq (((F19 a0.1 a0.2.1 a0.2.2).2 : Int) == 0) true, (oC7_37 a0), (oC7_13 a0), (oC7_14 a0), .eq (((F21 a0.1 a0.2.1 a0.2.2).2 : Int) == 0) true, (oC7_15 a0), (oC7_16 a0), (oC7_17 a0), (oC7_19 a0), (oC7_24 a0), (oC7_25 a0), (oC7_26 a0), .eq (((F26 a0.1 a0.2.1 a0.2.2).2 : Int) == 0) true, (oC7_27 a0), (oC7_28 a0), (oC7_30 a0), (oC7_32 a0), (oC7_34 a0), .call 16 [] [] (.v (.bool F16)) []]) (by kernel_rfl) ⟨(C19 a0.1 a0.2.1 a0.2.2), (C19 a0.1 a0.2.1 (W (a0.2.2 + 1))), h0, h1, (C21 a0.1 a0.2.1 a0.2.2), (C21 a0.1 a0.2.1 (W (a0.2.2 + 1))), h2, h3, (C25 (F21 a0.1 a0.2.1 (W (a0.2.2 + 1))).1 (F21 a0.1 a0.2.1 a0.2.2).1), h4, h5, h6, (C26 a0.1 a0.2.1 a0.2.2), (C26 a0.1 a0.2.1 (W (a0.2.2 + 1))), h7, h8, (C25 (F26 a0.1 a0.2.1 (W (a0.2.2 + 1))).1 (F26 a0.1 a0.2.1 a0.2.2).1), h9, h10, h11, (C16), trivial⟩
                  | false =>
                    have q0 := eq_of_beq h0
                    have q1 := bne_eq_false_iff_eq.1 h1
                    have q2 := eq_of_beq h2
                    have q3 := bne_iff_ne.1 h3
                    have q4 := bne_eq_false_iff_eq.1 h4
                    have q5 := bne_eq_false_iff_eq.1 h5
                    have q7 := eq_of_beq h7
                    have q8 := bne_eq_false_iff_eq.1 h8
                    have e : (F7 a0) = F16 := by simp only [F7, h0, h1, h2, h3, h4, h5, h6, h7, h8, cond_true, cond_false]
                    rw [e]
                    refine con_of (n := 9) Try.func7 rfl (ent Try.func7 (by kernel_rfl) rfl) (by show 1 ≤ Try.f7.ntmps; decide) (by kernel_rfl) trivial (fun cx hcx => ?_)
                    exact ret_of (T := T0) hT hm (f := 5000) (orc := [(oC7_0 a0), (oC7_1 a0), .d true, .d false, (oC7_9 a0), (oC7_10 a0), .d true, .d true, (oC7_11 a0), .d false, .d false, .d false, (oC7_21 a0), (oC7_22 a0), .d true, .d false, .call [] (.v (.bool F16)) []]) [] [] [] hcx
                      (obs := [(oC7_3 a0), (oC7_4 a0), .eq (((F19 a0.1 a0.2.1 a0.2.2).2 : Int) == 0) true, (oC7_37 a0), (oC7_13 a0), (oC7_14 a0), .eq (((F21 a0.1 a0.2.1 a0.2.2).2 : Int) == 0) true, (oC7_15 a0), (oC7_16 a0), (oC7_17 a0), (oC7_19 a0), (oC7_24 a0), (oC7_25 a0), (oC7_26 a0), .eq (((F26 a0.1 a0.2.1 a0.2.2).2 : Int) == 0) true, (oC7_35 a0), .call 16 [] [] (.v (.bool F16)) []]) (by kernel_rfl) ⟨(C19 a0.1 a0.2.1 a0.2.2), (C19 a0.1 a0.2.1 (W (a0.2.2 + 1))), h0, h1, (C21 a0.1 a0.2.1 a0.2.2), (C21 a0.1 a0.2.1 (W (a0.2.2 + 1))), h2, h3, (C25 (F21 a0.1 a0.2.1 (W (a0.2.2 + 1))).1 (F21 a0.1 a0.2.1 a0.2.2).1), h4, h5, h6, (C26 a0.1 a0.2.1 a0.2.2), (C26 a0.1 a0.2.1 (W (a0.2.2 + 1))), h7, h8, (C16), trivial⟩
                | false =>
                  have q0 := eq_of_beq h0
                  have q1 := bne_eq_false_iff_eq.1 h1
                  have q2 := eq_of_beq h2
                  have q3 := bne_iff_ne.1 h3
                  have q4 := bne_eq_false_iff_eq.1 h4
                  have q5 := bne_eq_false_iff_eq.1 h5
                  have q7 := ne_of_beq_false h7
                  have e : (F7 a0) = F16 := by simp only [F7, h0, h1, h2, h3, h4, h5, h6, h7, cond_true, cond_false]
                  rw [e]
                  refine con_of (n := 9) Try.func7 rfl (ent Try.func7 (by kernel_rfl) rfl) (by show 1 ≤ Try.f7.ntmps; decide) (by kernel_rfl) trivial (fun cx hcx => ?_)
                  exact ret_of (T := T0) hT hm (f := 5000) (orc := [(oC7_0 a0), (oC7_1 a0), .d true, .d false, (oC7_9 a0), (oC7_10 a0), .d true, .d true, (oC7_11 a0), .d false, .d false, .d false, (oC7_21 a0), (oC7_22 a0), .d false, .call [] (.v (.bool F16)) []]) [] [] [] hcx
                    (obs := [(oC7_3 a0), (oC7_4 a0), .eq (((F19 a0.1 a0.2.1 a0.2.2).2 : Int) == 0) true, (oC7_37 a0), (oC7_13 a0), (oC7_14 a0), .eq (((F21 a0.1 a0.2.1 a0.2.2).2 : Int) == 0) true, (oC7_15 a0), (oC7_16 a0), (oC7_17 a0), (oC7_19 a0), (oC7_24 a0), (oC7_25 a0), (oC7_26 a0), .eq (((F26 a0.1 a0.2.1 a0.2.2).2 : Int) == 0) false, .call 16 [] [] (.v (.bool F16)) []]) (by kernel_rfl) ⟨(C19 a0.1 a0.2.1 a0.2.2), (C19 a0.1 a0.2.1 (W (a0.2.2 + 1))), h0, h1, (C21 a0.1 a0.2.1 a0.2.2), (C21 a0.1 a0.2.1 (W (a0.2.2 + 1))), h2, h3, (C25 (F21 a0.1 a0.2.1 (W (a0.2.2 + 1))).1 (F21 a0.1 a0.2.1 a0.2.2).1), h4, h5, h6, (C26 a0.1 a0.2.1 a0.2.2), (C26 a0.1 a0.2.1 (W (a0.2.2 + 1))), h7, (C16), trivial⟩
        | false =>
          cases h4 : (((F26 a0.1 a0.2.1 a0.2.2).2 : Int) == 0) with
          | true =>
            cases h5 : (((F26 a0.1 a0.2.1 (W (a0.2.2 + 1))).2 : Int) != 1) with
            | true =>
              cases h6 : (((F26 a0.1 a0.2.1 (W (a0.2.2 + 1))).2 : Int) != 0) with
              | true =>
                have q0 := eq_of_beq h0
                have q1 := bne_eq_false_iff_eq.1 h1
                have q2 := eq_of_beq h2
                have q3 := bne_eq_false_iff_eq.1 h3
                have q4 := eq_of_beq h4
                have q5 := bne_iff_ne.1 h5
                have q6 := bne_iff_ne.1 h6
                have e : (F7 a0) = false := by simp only [F7, h0, h1, h2, h3, h4, h5, h6, cond_true, cond_false]
                rw [e]
                refine con_of (n := 9) Try.func7 rfl (ent Try.func7 (by kernel_rfl) rfl) (by show 1 ≤ Try.f7.ntmps; decide) (by kernel_rfl) trivial (fun cx hcx => ?_)
                exact ret_of (T := T0) hT hm (f := 5000) (orc := [(oC7_0 a0), (oC7_1 a0), .d true, .d false, (oC7_9 a0), (oC7_10 a0), .d true, .d false, (oC7_21 a0), (oC7_22 a0), .d true, .d true, (oC7_23 a0), .d true]) [] [] [] hcx
                  (obs := [(oC7_3 a0), (oC7_4 a0), .eq (((F19 a0.1 a0.2.1 a0.2.2).2 : Int) == 0) true, (oC7_37 a0), (oC7_13 a0), (oC7_14 a0), .eq (((F21 a0.1 a0.2.1 a0.2.2).2 : Int) == 0) true, (oC7_36 a0), (oC7_25 a0), (oC7_26 a0), .eq (((F26 a0.1 a0.2.1 a0.2.2).2 : Int) == 0) true, (oC7_27 a0), (oC7_28 a0), (oC7_29 a0)]) (by kernel_rfl) ⟨(C19 a0.1 a0.2.1 a0.2.2), (C19 a0.1 a0.2.1 (W (a0.2.2 + 1))), h0, h1, (C21 a0.1 a0.2.1 a0.2.2), (C21 a0.1 a0.2.1 (W (a0.2.2 + 1))), h2, h3, (C26 a0.1 a0.2.1 a0.2.2), (C26 a0.1 a0.2.1 (W (a0.2.2 + 1))), h4, h5, (C25 (F26 a0.1 a0.2.1 (W (a0.2.2 + 1))).1 (F26 a0.1 a0.2.1 a0.2.2).1), h6, trivial⟩
              | false =>
                cases h7 : (((F25 (F26 a0.1 a0.2.1 (W (a0.2.2 + 1))).1 (F26 a0.1 a0.2.1 a0.2.2).1).2 : Int) != 0) with
                | true =>
                  have q0 := eq_of_beq h0
                  have q1 := bne_eq_false_iff_eq.1 h1
                  have q2 := eq_of_beq h2
                  have q3 := bne_eq_false_iff_eq.1 h3
                  have q4 := eq_of_beq h4
                  have q5 := bne_iff_ne.1 h5
                  have q6 := bne_eq_false_iff_eq.1 h6
                  have q7 := bne_iff_ne.1 h7
                  have e : (F7 a0) = false := by simp only [F7, h0, h1, h2, h3, h4, h5, h6, h7, cond_true, cond_false]
                  rw [e]
                  refine con_of (n := 9) Try.func7 rfl (ent Try.func7 (by kernel_rfl) rfl) (by show 1 ≤ Try.f7.ntmps; decide) (by kernel_rfl) trivial (fun cx hcx => ?_)
                  exact ret_of (T := T0) hT hm (f := 5000) (orc := [(oC7_0 a0), (oC7_1 a0), .d true, .d false, (oC7_9 a0), (oC7_10 a0), .d true, .d false, (oC7_21 a0), (oC7_22 a0), .d true, .d true, (oC7_23 a0), .d false, .d true]) [] [] [] hcx
                    (obs := [(oC7_3 a0), (oC7_4 a0), .eq (((F19 a0.1 a0.2.1 a0.2.2).2 : Int) == 0) true, (oC7_37 a0), (oC7_13 a0), (oC7_14 a0), .eq (((F21 a0.1 a0.2.1 a0.2.2).2 : Int) == 0) true, (oC7_36 a0), (oC7_25 a0), (oC7_26 a0), .eq (((F26 a0.1 a0.2.1 a0.2.2).2 : Int) == 0) true, (oC7_27 a0), (oC7_28 a0), (oC7_30 a0), (oC7_31 a0)]) (by kernel_rfl) ⟨(C19 a0.1 a0.2.1 a0.2.2), (C19 a0.1 a0.2.1 (W (a0.2.2 + 1))), h0, h1, (C21 a0.1 a0.2.1 a0.2.2), (C21 a0.1 a0.2.1 (W (a0.2.2 + 1))), h2, h3, (C26 a0.1 a0.2.1 a0.2.2), (C26 a0.1 a0.2.1 (W (a0.2.2 + 1))), h4, h5, (C25 (F26 a0.1 a0.2.1 (W (a0.2.2 + 1))).1 (F26 a0.1 a0.2.1 a0.2.2).1), h6, h7, trivial⟩
                | false =>
                  cases h8 : (!(F25 (F26 a0.1 a0.2.1 (W (a0.2.2 + 1))).1 (F26 a0.1 a0.2.1 a0.2.2).1).1) with
                  | true =>
                    have q0 := eq_of_beq h0
                    have q1 := bne_eq_false_iff_eq.1 h1
                    have q2 := eq_of_beq h2
                    have q3 := bne_eq_false_iff_eq.1 h3
                    have q4 := eq_of_beq h4
                    have q5 := bne_iff_ne.1 h5
                    have q6 := bne_eq_false_iff_eq.1 h6
                    have q7 := bne_eq_false_iff_eq.1 h7
                    have e : (F7 a0) = false := by simp only [F7, h0, h1, h2, h3, h4, h5, h6, h7, h8, cond_true, cond_false]
                    rw [e]
                    refine con_of (n := 9) Try.func7 rfl (ent Try.func7 (by kernel_rfl) rfl) (by show 1 ≤ Try.f7.ntmps; decide) (by kernel_rfl) trivial (fun cx hcx => ?_)
                    exact ret_of (T := T0) hT hm (f := 5000) (orc := [(oC7_0 a0), (oC7_1 a0), .d true, .d false, (oC7_9 a0), (oC7_10 a0), .d true, .d false, (oC7_21 a0), (oC7_22 a0), .d true, .d true, (oC7_23 a0), .d false, .d false, .d true]) [] [] [] hcx
                      (obs := [(oC7_3 a0), (oC7_4 a0), .eq (((F19 a0.1 a0.2.1 a0.2.2).2 : Int) == 0) true, (oC7_37 a0), (oC7_13 a0), (oC7_14 a0), .eq (((F21 a0.1 a0.2.1 a0.2.2).2 : Int) == 0) true, (oC7_36 a0), (oC7_25 a0), (oC7_26 a0), .eq (((F26 a0.1 a0.2.1 a0.2.2).2 : Int) == 0) true, (oC7_27 a0), (oC7_28 a0), (oC7_30 a0), (oC7_32 a0), (oC7_33 a0)]) (by kernel_rfl) ⟨(C19 a0.1 a0.2.1 a0.2.2), (C19 a0.1 a0.2.1 (W (a0.2.2 + 1))), h0, h1, (C21 a0.1 a0.2.1 a0.2.2), (C21 a0.1 a0.2.1 (W (a0.2.2 + 1))), h2, h3, (C26 a0.1 a0.2.1 a0.2.2), (C26 a0.1 a0.2.1 (W (a0.2.2 + 1))), h4, h5, (C25 (F26 a0.1 a0.2.1 (W (a0.2.2 + 1))).1 (F26 a0.1 a0.2.1 a0.2.2).1), h6, h7, h8, trivial⟩
                  | false =>
                    have q0 := eq_of_beq h0
                    have q1 := bne_eq_false_iff_eq.1 h1
                    have q2 := eq_of_beq h2
                    have q3 := bne_eq_false_iff_eq.1 h3
                    have q4 := eq_of_beq h4
                    have q5 := bne_iff_ne.1 h5
                    have q6 := bne_eq_false_iff_eq.1 h6
                    have q7 := bne_eq_false_iff_eq.1 h7
                    have e : (F7 a0) = F16 := by simp only [F7, h0, h1, h2, h3, h4, h5, h6, h7, h8, cond_true, cond_false]
                    rw [e]
                    refine con_of (n := 9) Try.func7 rfl (ent Try.func7 (by kernel_rfl) rfl) (by show 1 ≤ Try.f7.ntmps; decide) (by kernel_rfl) trivial (fun cx hcx => ?_)
                    exact ret_of (T := T0) hT hm (f := 5000) (orc := [(oC7_0 a0), (oC7_1 a0), .d true, .d false, (oC7_9 a0), (oC7_10 a0), .d true, .d false, (oC7_21 a0), (oC7_22 a0), .d true, .d true, (oC7_23 a0), .d false, .d false, .d false, .call [] (.v (.bool F16)) []]) [] [] [] hcx
                      (obs := [(oC7_3 a0), (oC7_4 a0), .eq (((F19 a0.1 a0.2.1 a0.2.2).2 : Int) == 0) true, (oC7_37 a0), (oC7_13 a0), (oC7_14 a0), .eq (((F21 a0.1 a0.2.1 a0.2.2).2 : Int) == 0) true, (oC7_36 a0), (oC7_25 a0), (oC7_26 a0), .eq (((F26 a0.1 a0.2.1 a0.2.2).2 : Int) == 0) true, (oC7_27 a0), (oC7_28 a0), (oC7_30 a0), (oC7_32 a0), (oC7_34 a0), .call 16 [] [] (.v (.bool F16)) []]) (by kernel_rfl) ⟨(C19 a0.1 a0.2.1 a0.2.2), (C19 a0.1 a0.2.1 (W (a0.2.2 + 1))), h0, h1, (C21 a0.1 a0.2.1 a0.2.2), (C21 a0.1 a0.2.1 (W (a0.2.2 + 1))), h2, h3, (C26 a0.1 a0.2.1 a0.2.2), (C26 a0.1 a0.2.1 (W (a0.2.2 + 1))), h4, h5, (C25 (F26 a0.1 a0.2.1 (W (a0.2.2 + 1))).1 (F26 a0.1 a0.2.1 a0.2.2).1), h6, h7, h8, (C16), trivial⟩
            | false =>
              have q0 := eq_of_beq h0
              have q1 := bne_eq_false_iff_eq.1 h1
              have q2 := eq_of_beq h2
              have q3 := bne_eq_false_iff_eq.1 h3
              have q4 := eq_of_beq h4
              have q5 := bne_eq_false_iff_eq.1 h5
              have e : (F7 a0) = F16 := by simp only [F7, h0, h1, h2, h3, h4, h5, cond_true, cond_false]
              rw [e]
              refine con_of (n := 9) Try.func7 rfl (ent Try.func7 (by kernel_rfl) rfl) (by show 1 ≤ Try.f7.ntmps; decide) (by kernel_rfl) trivial (fun cx hcx => ?_)
              exact ret_of (T := T0) hT hm (f := 5000) (orc := [(oC7_0 a0), (oC7_1 a0), .d true, .d false, (oC7_9 a0), (oC7_10 a0), .d true, .d false, (oC7_21 a0), (oC7_22 a0), .d true, .d false, .call [] (.v (.bool F16)) []]) [] [] [] hcx
                (obs := [(oC7_3 a0), (oC7_4 a0), .eq (((F19 a0.1 a0.2.1 a0.2.2).2 : Int) == 0) true, (oC7_37 a0), (oC7_13 a0), (oC7_14 a0), .eq (((F21 a0.1 a0.2.1 a0.2.2).2 : Int) == 0) true, (oC7_36 a0), (oC7_25 a0), (oC7_26 a0), .eq (((F26 a0.1 a0.2.1 a0.2.2).2 : Int) == 0) true, (oC7_35 a0), .call 16 [] [] (.v (.bool F16)) []]) (by kernel_rfl) ⟨(C19 a0.1 a0.2.1 a0.2.2), (C19 a0.1 a0.2.1 (W (a0.2.2 + 1))), h0, h1, (C21 a0.1 a0.2.1 a0.2.2), (C21 a0.1 a0.2.1 (W (a0.2.2 + 1))), h2, h3, (C26 a0.1 a0.2.1 a0.2.2), (C26 a0.1 a0.2.1 (W (a0.2.2 + 1))), h4, h5, (C16), trivial⟩
          | false =>
            have q0 := eq_of_beq h0
            have q1 := bne_eq_false_iff_eq.1 h1
            have q2 := eq_of_beq h2
            have q3 := bne_eq_false_iff_eq.1 h3
            have q4 := ne_of_beq_false h4
            have e : (F7 a0) = F16 := by simp only [F7, h0, h1, h2, h3, h4, cond_true, cond_false]
            rw [e]
            refine con_of (n := 9) Try.func7 rfl (ent Try.func7 (by kernel_rfl) rfl) (by show 1 ≤ Try.f7.ntmps; decide) (by kernel_rfl) trivial (fun cx hcx => ?_)
            exact ret_of (T := T0) hT hm (f := 5000) (orc := [(oC7_0 a0), (oC7_1 a0), .d true, .d false, (oC7_9 a0), (oC7_10 a0), .d true, .d false, (oC7_21 a0), (oC7_22 a0), .d false, .call [] (.v (.bool F16)) []]) [] [] [] hcx
              (obs := [(oC7_3 a0), (oC7_4 a0), .eq (((F19 a0.1 a0.2.1 a0.2.2).2 : Int) == 0) true, (oC7_37 a0), (oC7_13 a0), (oC7_14 a0), .eq (((F21 a0.1 a0.2.1 a0.2.2).2 : Int) == 0) true, (oC7_36 a0), (oC7_25 a0), (oC7_26 a0), .eq (((F26 a0.1 a0.2.1 a0.2.2).2 : Int) == 0) false, .call 16 [] [] (.v (.bool F16)) []]) (by kernel_rfl) ⟨(C19 a0.1 a0.2.1 a0.2.2), (C19 a0.1 a0.2.1 (W (a0.2.2 + 1))), h0, h1, (C21 a0.1 a0.2.1 a0.2.2), (C21 a0.1 a0.2.1 (W (a0.2.2 + 1))), h2, h3, (C26 a0.1 a0.2.1 a0.2.2), (C26 a0.1 a0.2.1 (W (a0.2.2 + 1))), h4, (C16), trivial⟩
      | false =>
        cases h3 : (((F26 a0.1 a0.2.1 a0.2.2).2 : Int) == 0) with
        | true =>
          cases h4 : (((F26 a0.1 a0.2.1 (W (a0.2.2 + 1))).2 : Int) != 1) with
          | true =>
            cases h5 : (((F26 a0.1 a0.2.1 (W (a0.2.2 + 1))).2 : Int) != 0) with
            | true =>
              have q0 := eq_of_beq h0
              have q1 := bne_eq_false_iff_eq.1 h1
              have q2 := ne_of_beq_false h2
              have q3 := eq_of_beq h3
              have q4 := bne_iff_ne.1 h4
              have q5 := bne_iff_ne.1 h5
              have e : (F7 a0) = false := by simp only [F7, h0, h1, h2, h3, h4, h5, cond_true, cond_false]
              rw [e]
              refine con_of (n := 9) Try.func7 rfl (ent Try.func7 (by kernel_rfl) rfl) (by show 1 ≤ Try.f7.ntmps; decide) (by kernel_rfl) trivial (fun cx hcx => ?_)
              exact ret_of (T := T0) hT hm (f := 5000) (orc := [(oC7_0 a0), (oC7_1 a0), .d true, .d false, (oC7_9 a0), (oC7_10 a0), .d false, (oC7_21 a0), (oC7_22 a0), .d true, .d true, (oC7_23 a0), .d true]) [] [] [] hcx
                (obs := [(oC7_3 a0), (oC7_4 a0), .eq (((F19 a0.1 a0.2.1 a0.2.2).2 : Int) == 0) true, (oC7_37 a0), (oC7_13 a0), (oC7_14 a0), .eq (((F21 a0.1 a0.2.1 a0.2.2).2 : Int) == 0) false, (oC7_25 a0), (oC7_26 a0), .eq (((F26 a0.1 a0.2.1 a0.2.2).2 : Int) == 0) true, (oC7_27 a0), (oC7_28 a0), (oC7_29 a0)]) (by kernel_rfl) ⟨(C19 a0.1 a0.2.1 a0.2.2), (C19 a0.1 a0.2.1 (W (a0.2.2 + 1))), h0, h1, (C21 a0.1 a0.2.1 a0.2.2), (C21 a0.1 a0.2.1 (W (a0.2.2 + 1))), h2, (C26 a0.1 a0.2.1 a0.2.2), (C26 a0.1 a0.2.1 (W (a0.2.2 + 1))), h3, h4, (C25 (F26 a0.1 a0.2.1 (W (a0.2.2 + 1))).1 (F26 a0.1 a0.2.1 a0.2.2).1), h5, trivial⟩
            | false =>
              cases h6 : (((F25 (F26 a0.1 a0.2.1 (W (a0.2.2 + 1))).1 (F26 a0.1 a0.2.1 a0.2.2).1).2 : Int) != 0) with
              | true =>
                have q0 := eq_of_beq h0
                have q1 := bne_eq_false_iff_eq.1 h1
                have q2 := ne_of_beq_false h2
                have q3 := eq_of_beq h3
                have q4 := bne_iff_ne.1 h4
                have q5 := bne_eq_false_iff_eq.1 h5
                have q6 := bne_iff_ne.1 h6
                have e : (F7 a0) = false := by simp only [F7, h0, h1, h2, h3, h4, h5, h6, cond_true, cond_false]
                rw [e]
                refine con_of (n := 9) Try.func7 rfl (ent Try.func7 (by kernel_rfl) rfl) (by show 1 ≤ Try.f7.ntmps; decide) (by kernel_rfl) trivial (fun cx hcx => ?_)
                exact ret_of (T := T0) hT hm (f := 5000) (orc := [(oC7_0 a0), (oC7_1 a0), .d true, .d false, (oC7_9 a0), (oC7_10 a0), .d false, (oC7_21 a0), (oC7_22 a0), .d true, .d true, (oC7_23 a0), .d false, .d true]) [] [] [] hcx
                  (obs := [(oC7_3 a0), (oC7_4 a0), .eq (((F19 a0.1 a0.2.1 a0.2.2).2 : Int) == 0) true, (oC7_37 a0), (oC7_13 a0), (oC7_14 a0), .eq (((F21 a0.1 a0.2.1 a0.2.2).2 : Int) == 0) false, (oC7_25 a0), (oC7_26 a0), .eq (((F26 a0.1 a0.2.1 a0.2.2).2 : Int) == 0) true, (oC7_27 a0), (oC7_28 a0), (oC7_30 a0), (oC7_31 a0)]) (by kernel_rfl) ⟨(C19 a0.1 a0.2.1 a0.2.2), (C19 a0.1 a0.2.1 (W (a0.2.2 + 1))), h0, h1, (C21 a0.1 a0.2.1 a0.2.2), (C21 a0.1 a0.2.1 (W (a0.2.2 + 1))), h2, (C26 a0.1 a0.2.1 a0.2.2), (C26 a0.1 a0.2.1 (W (a0.2.2 + 1))), h3, h4, (C25 (F26 a0.1 a0.2.1 (W (a0.2.2 + 1))).1 (F26 a0.1 a0.2.1 a0.2.2).1), h5, h6, trivial⟩
              | false =>
                cases h7 : (!(F25 (F26 a0.1 a0.2.1 (W (a0.2.2 + 1))).1 (F26 a0.1 a0.2.1 a0.2.2).1).1) with
                | true =>
                  have q0 := eq_of_beq h0
                  have q1 := bne_eq_false_iff_eq.1 h1
                  have q2 := ne_of_beq_false h2
                  have q3 := eq_of_beq h3
                  have q4 := bne_iff_ne.1 h4
                  have q5 := bne_eq_false_iff_eq.1 h5
                  have q6 := bne_eq_false_iff_eq.1 h6
                  have e : (F7 a0) = false := by simp only [F7, h0, h1, h2, h3, h4, h5, h6, h7, cond_true, cond_false]
                  rw [e]
                  refine con_of (n := 9) Try.func7 rfl (ent Try.func7 (by kernel_rfl) rfl) (by show 1 ≤ Try.f7.ntmps; decide) (by kernel_rfl) trivial (fun cx hcx => ?_)
                  exact ret_of (T := T0) hT hm (f := 5000) (orc := [(oC7_0 a0), (oC7_1 a0), .d true, .d false, (oC7_9 a0), (oC7_10 a0), .d false, (oC7_21 a0), (oC7_22 a0), .d true, .d true, (oC7_23 a0), .d false, .d false, .d true]) [] [] [] hcx
                    (obs := [(oC7_3 a0), (oC7_4 a0), .eq (((F19 a0.1 a0.2.1 a0.2.2).2 : Int) == 0) true, (oC7_37 a0), (oC7_13 a0), (oC7_14 a0), .eq (((F21 a0.1 a0.2.1 a0.2.2).2 : Int) == 0) false, (oC7_25 a0), (oC7_26 a0), .eq (((F26 a0.1 a0.2.1 a0.2.2).2 : Int) == 0) true, (oC7_27 a0), (oC7_28 a0), (oC7_30 a0), (oC7_32 a0), (oC7_33 a0)]) (by kernel_rfl) ⟨(C19 a0.1 a0.2.1 a0.2.2), (C19 a0.1 a0.2.1 (W (a0.2.2 + 1))), h0, h1, (C21 a0.1 a0.2.1 a0.2.2), (C21 a0.1 a0.2.1 (W (a0.2.2 + 1))), h2, (C26 a0.1 a0.2.1 a0.2.2), (C26 a0.1 a0.2.1 (W (a0.2.2 + 1))), h3, h4, (C25 (F26 a0.1 a0.2.1 (W (a0.2.2 + 1))).1 (F26 a0.1 a0.2.1 a0.2.2).1), h5, h6, h7, trivial⟩
                | false =>
                  have q0 := eq_of_beq h0
                  have q1 := bne_eq_false_iff_eq.1 h1
                  have q2 := ne_of_beq_false h2
                  have q3 := eq_of_beq h3
                  have q4 := bne_iff_ne.1 h4
                  have q5 := bne_eq_false_iff_eq.1 h5
                  have q6 := bne_eq_false_iff_eq.1 h6
                  have e : (F7 a0) = F16 := by simp only [F7, h0, h1, h2, h3, h4, h5, h6, h7, cond_true, cond_false]
                  rw [e]
                  refine con_of (n := 9) Try.func7 rfl (ent Try.func7 (by kernel_rfl) rfl) (by show 1 ≤ Try.f7.ntmps; decide) (by kernel_rfl) trivial (fun cx hcx => ?_)
                  exact ret_of (T := T0) hT hm (f := 5000) (orc := [(oC7_0 a0), (oC7_1 a0), .d true, .d false, (oC7_9 a0), (oC7_10 a0), .d false, (oC7_21 a0), (oC7_22 a0), .d true, .d true, (oC7_23 a0), .d false, .d false, .d false, .call [] (.v (.bool F16)) []]) [] [] [] hcx
                    (obs := [(oC7_3 a0), (oC7_4 a0), .eq (((F19 a0.1 a0.2.1 a0.2.2).2 : Int) == 0) true, (oC7_37 a0), (oC7_13 a0), (oC7_14 a0), .eq (((F21 a0.1 a0.2.1 a0.2.2).2 : Int) == 0) false, (oC7_25 a0), (oC7_26 a0), .eq (((F26 a0.1 a0.2.1 a0.2.2).2 : Int) == 0) true, (oC7_27 a0), (oC7_28 a0), (oC7_30 a0), (oC7_32 a0), (oC7_34 a0), .call 16 [] [] (.v (.bool F16)) []]) (by kernel_rfl) ⟨(C19 a0.1 a0.2.1 a0.2.2), (C19 a0.1 a0.2.1 (W (a0.2.2 + 1))), h0, h1, (C21 a0.1 a0.2.1 a0.2.2), (C21 a0.1 a0.2.1 (W (a0.2.2 + 1))), h2, (C26 a0.1 a0.2.1 a0.2.2), (C26 a0.1 a0.2.1 (W (a0.2.2 + 1))), h3, h4, (C25 (F26 a0.1 a0.2.1 (W (a0.2.2 + 1))).1 (F26 a0.1 a0.2.1 a0.2.2).1), h5, h6, h7, (C16), trivial⟩
          | false =>
            have q0 := eq_of_beq h0
            have q1 := bne_eq_false_iff_eq.1 h1
            have q2 := ne_of_beq_false h2
            have q3 := eq_of_beq h3
            have q4 := bne_eq_false_iff_eq.1 h4
            have e : (F7 a0) = F16 := by simp only [F7, h0, h1, h2, h3, h4, cond_true, cond_false]
            rw [e]
            refine con_of (n := 9) Try.func7 rfl (ent Try.func7 (by kernel_rfl) rfl) (by show 1 ≤ Try.f7.ntmps; decide) (by kernel_rfl) trivial (fun cx hcx => ?_)
            exact ret_of (T := T0) hT hm (f := 5000) (orc := [(oC7_0 a0), (oC7_1 a0), .d true, .d false, (oC7_9 a0), (oC7_10 a0), .d false, (oC7_21 a0), (oC7_22 a0), .d true, .d false, .call [] (.v (.bool F16)) []]) [] [] [] hcx
              (obs := [(oC7_3 a0), (oC7_4 a0), .eq (((F19 a0.1 a0.2.1 a0.2.2).2 : Int) == 0) true, (oC7_37 a0), (oC7_13 a0), (oC7_14 a0), .eq (((F21 a0.1 a0.2.1 a0.2.2).2 : Int) == 0) false, (oC7_25 a0), (oC7_26 a0), .eq (((F26 a0.1 a0.2.1 a0.2.2).2 : Int) == 0) true, (oC7_35 a0), .call 16 [] [] (.v (.bool F16)) []]) (by kernel_rfl) ⟨(C19 a0.1 a0.2.1 a0.2.2), (C19 a0.1 a0.2.1 (W (a0.2.2 + 1))), h0, h1, (C21 a0.1 a0.2.1 a0.2.2), (C21 a0.1 a0.2.1 (W (a0.2.2 + 1))), h2, (C26 a0.1 a0.2.1 a0.2.2), (C26 a0.1 a0.2.1 (W (a0.2.2 + 1))), h3, h4, (C16), trivial⟩
        | false =>
          have q0 := eq_of_beq h0
          have q1 := bne_eq_false_iff_eq.1 h1
          have q2 := ne_of_beq_false h2
          have q3 := ne_of_beq_false h3
          have e : (F7 a0) = F16 := by simp only [F7, h0, h1, h2, h3, cond_true, cond_false]
          rw [e]
          refine con_of (n := 9) Try.func7 rfl (ent Try.func7 (by kernel_rfl) rfl) (by show 1 ≤ Try.f7.ntmps; decide) (by kernel_rfl) trivial (fun cx hcx => ?_)
          exact ret_of (T := T0) hT hm (f := 5000) (orc := [(oC7_0 a0), (oC7_1 a0), .d true, .d false, (oC7_9 a0), (oC7_10 a0), .d false, (oC7_21 a0), (oC7_22 a0), .d false, .call [] (.v (.bool F16)) []]) [] [] [] hcx
            (obs := [(oC7_3 a0), (oC7_4 a0), .eq (((F19 a0.1 a0.2.1 a0.2.2).2 : Int) == 0) true, (oC7_37 a0), (oC7_13 a0), (oC7_14 a0), .eq (((F21 a0.1 a0.2.1 a0.2.2).2 : Int) == 0) false, (oC7_25 a0), (oC7_26 a0), .eq (((F26 a0.1 a0.2.1 a0.2.2).2 : Int) == 0) false, .call 16 [] [] (.v (.bool F16)) []]) (by kernel_rfl) ⟨(C19 a0.1 a0.2.1 a0.2.2), (C19 a0.1 a0.2.1 (W (a0.2.2 + 1))), h0, h1, (C21 a0.1 a0.2.1 a0.2.2), (C21 a0.1 a0.2.1 (W (a0.2.2 + 1))), h2, (C26 a0.1 a0.2.1 a0.2.2), (C26 a0.1 a0.2.1 (W (a0.2.2 + 1))), h3, (C16), trivial⟩
  | false =>
    cases h1 : (((F21 a0.1 a0.2.1 a0.2.2).2 : Int) == 0) with
    | true =>
      cases h2 : (((F21 a0.1 a0.2.1 (W (a0.2.2 + 1))).2 : Int) != 1) with
      | true =>
        cases h3 : (((F21 a0.1 a0.2.1 (W (a0.2.2 + 1))).2 : Int) != 0) with
        | true =>
          have q0 := ne_of_beq_false h0
          have q1 := eq_of_beq h1
          have q2 := bne_iff_ne.1 h2
          have q3 := bne_iff_ne.1 h3
          have e : (F7 a0) = false := by simp only [F7, h0, h1, h2, h3, cond_true, cond_false]
          rw [e]
          refine con_of (n := 9) Try.func7 rfl (ent Try.func7 (by kernel_rfl) rfl) (by show 1 ≤ Try.f7.ntmps; decide) (by kernel_rfl) trivial (fun cx hcx => ?_)
          exact ret_of (T := T0) hT hm (f := 5000) (orc := [(oC7_0 a0), (oC7_1 a0), .d false, (oC7_9 a0), (oC7_10 a0), .d true, .d true, (oC7_11 a0), .d true]) [] [] [] hcx
            (obs := [(oC7_3 a0), (oC7_4 a0), .eq (((F19 a0.1 a0.2.1 a0.2.2).2 : Int) == 0) false, (oC7_13 a0), (oC7_14 a0), .eq (((F21 a0.1 a0.2.1 a0.2.2).2 : Int) == 0) true, (oC7_15 a0), (oC7_16 a0), .eq (((F21 a0.1 a0.2.1 (W (a0.2.2 + 1))).2 : Int) != 0) true]) (by kernel_rfl) ⟨(C19 a0.1 a0.2.1 a0.2.2), (C19 a0.1 a0.2.1 (W (a0.2.2 + 1))), h0, (C21 a0.1 a0.2.1 a0.2.2), (C21 a0.1 a0.2.1 (W (a0.2.2 + 1))), h1, h2, (C25 (F21 a0.1 a0.2.1 (W (a0.2.2 + 1))).1 (F21 a0.1 a0.2.1 a0.2.2).1), h3, trivial⟩
        | false =>
          cases h4 : (((F25 (F21 a0.1 a0.2.1 (W (a0.2.2 + 1))).1 (F21 a0.1 a0.2.1 a0.2.2).1).2 : Int) != 0) with
          | true =>
            have q0 := ne_of_beq_false h0
            have q1 := eq_of_beq h1
            have q2 := bne_iff_ne.1 h2
            have q3 := bne_eq_false_iff_eq.1 h3
            have q4 := bne_iff_ne.1 h4
            have e : (F7 a0) = false := by simp only [F7, h0, h1, h2, h3, h4, cond_true, cond_false]
            rw [e]
            refine con_of (n := 9) Try.func7 rfl (ent Try.func7 (by kernel_rfl) rfl) (by show 1 ≤ Try.f7.ntmps; decide) (by kernel_rfl) trivial (fun cx hcx => ?_)
            exact ret_of (T := T0) hT hm (f := 5000) (orc := [(oC7_0 a0), (oC7_1 a0), .d false, (oC7_9 a0), (oC7_10 a0), .d true, .d true, (oC7_11 a0), .d false, .d true]) [] [] [] hcx
              (obs := [(oC7_3 a0), (oC7_4 a0), .eq (((F19 a0.1 a0.2.1 a0.2.2).2 : Int) == 0) false, (oC7_13 a0), (oC7_14 a0), .eq (((F21 a0.1 a0.2.1 a0.2.2).2 : Int) == 0) true, (oC7_15 a0), (oC7_16 a0), (oC7_17 a0), (oC7_18 a0)]) (by kernel_rfl) ⟨(C19 a0.1 a0.2.1 a0.2.2), (C19 a0.1 a0.2.1 (W (a0.2.2 + 1))), h0, (C21 a0.1 a0.2.1 a0.2.2), (C21 a0.1 a0.2.1 (W (a0.2.2 + 1))), h1, h2, (C25 (F21 a0.1 a0.2.1 (W (a0.2.2 + 1))).1 (F21 a0.1 a0.2.1 a0.2.2).1), h3, h4, trivial⟩
          | false =>
            cases h5 : (!(F25 (F21 a0.1 a0.2.1 (W (a0.2.2 + 1))).1 (F21 a0.1 a0.2.1 a0.2.2).1).1) with
            | true =>
              have q0 := ne_of_beq_false h0
              have q1 := eq_of_beq h1
              have q2 := bne_iff_ne.1 h2
              have q3 := bne_eq_false_iff_eq.1 h3
              have q4 := bne_eq_false_iff_eq.1 h4
              have e : (F7 a0) = false := by simp only [F7, h0, h1, h2, h3, h4, h5, cond_true, cond_false]
              rw [e]
              refine con_of (n := 9) Try.func7 rfl (ent Try.func7 (by kernel_rfl) rfl) (by show 1 ≤ Try.f7.ntmps; decide) (by kernel_rfl) trivial (fun cx hcx => ?_)
              exact ret_of (T := T0) hT hm (f := 5000) (orc := [(oC7_0 a0), (oC7_1 a0), .d false, (oC7_9 a0), (oC7_10 a0), .d true, .d true, (oC7_11 a0), .d false, .d false, .d true]) [] [] [] hcx
                (obs := [(oC7_3 a0), (oC7_4 a0), .eq (((F19 a0.1 a0.2.1 a0.2.2).2 : Int) == 0) false, (oC7_13 a0), (oC7_14 a0), .eq (((F21 a0.1 a0.2.1 a0.2.2).2 : Int) == 0) true, (oC7_15 a0), (oC7_16 a0), (oC7_17 a0), (oC7_19 a0), (oC7_20 a0)]) (by kernel_rfl) ⟨(C19 a0.1 a0.2.1 a0.2.2), (C19 a0.1 a0.2.1 (W (a0.2.2 + 1))), h0, (C21 a0.1 a0.2.1 a0.2.2), (C21 a0.1 a0.2.1 (W (a0.2.2 + 1))), h1, h2, (C25 (F21 a0.1 a0.2.1 (W (a0.2.2 + 1))).1 (F21 a0.1 a0.2.1 a0.2.2).1), h3, h4, h5, trivial⟩
            | false =>
              cases h6 : (((F26 a0.1 a0.2.1 a0.2.2).2 : Int) == 0) with
              | true =>
                cases h7 : (((F26 a0.1 a0.2.1 (W (a0.2.2 + 1))).2 : Int) != 1) with
                | true =>
                  cases h8 : (((F26 a0.1 a0.2.1 (W (a0.2.2 + 1))).2 : Int) != 0) with
                  | true =>
                    have q0 := ne_of_beq_false h0
                    have q1 := eq_of_beq h1
                    have q2 := bne_iff_ne.1 h2
                    have q3 := bne_eq_false_iff_eq.1 h3
                    have q4 := bne_eq_false_iff_eq.1 h4
                    have q6 := eq_of_beq h6
                    have q7 := bne_iff_ne.1 h7
                    have q8 := bne_iff_ne.1 h8
                    have e : (F7 a0) = false := by simp only [F7, h0, h1, h2, h3, h4, h5, h6, h7, h8, cond_true, cond_false]
                    rw [e]
                    refine con_of (n := 9) Try.func7 rfl (ent Try.func7 (by kernel_rfl) rfl) (by show 1 ≤ Try.f7.ntmps; decide) (by kernel_rfl) trivial (fun cx hcx => ?_)
                    exact ret_of (T := T0) hT hm (f := 5000) (orc := [(oC7_0 a0), (oC7_1 a0), .d false, (oC7_9 a0), (oC7_10 a0), .d true, .d true, (oC7_11 a0), .d false, .d false, .d false, (oC7_21 a0), (oC7_22 a0), .d true, .d true, (oC7_23 a0), .d true]) [] [] [] hcx
                      (obs := [(oC7_3 a0), (oC7_4 a0), .eq (((F19 a0.1 a0.2.1 a0.2.2).2 : Int) == 0) false, (oC7_13 a0), (oC7_14 a0), .eq (((F21 a0.1 a0.2.1 a0.2.2).2 : Int) == 0) true, (oC7_15 a0), (oC7_16 a0), (oC7_17 a0), (oC7_19 a0), (oC7_24 a0), (oC7_25 a0), (oC7_26 a0), .eq (((F26 a0.1 a0.2.1 a0.2.2).2 : Int) == 0) true, (oC7_27 a0), (oC7_28 a0), (oC7_29 a0)]) (by kernel_rfl) ⟨(C19 a0.1 a0.2.1 a0.2.2), (C19 a0.1 a0.2.1 (W (a0.2.2 + 1))), h0, (C21 a0.1 a0.2.1 a0.2.2), (C21 a0.1 a0.2.1 (W (a0.2.2 + 1))), h1, h2, (C25 (F21 a0.1 a0.2.1 (W (a0.2.2 + 1))).1 (F21 a0.1 a0.2.1 a0.2.2).1), h3, h4, h5, (C26 a0.1 a0.2.1 a0.2.2), (C26 a0.1 a0.2.1 (W (a0.2.2 + 1))), h6, h7, (C25 (F26 a0.1 a0.2.1 (W (a0.2.2 + 1))).1 (F26 a0.1 a0.2.1 a0.2.2).1), h8, trivial⟩
                  | false =>
                    cases h9 : (((F25 (F26 a0.1 a0.2.1 (W (a0.2.2 + 1))).1 (F26 a0.1 a0.2.1 a0.2.2).1).2 : Int) != 0) with
                    | true =>
                      have q0 := ne_of_beq_false h0
                      have q1 := eq_of_beq h1
                      have q2 := bne_iff_ne.1 h2
                      have q3 := bne_eq_false_iff_eq.1 h3
                      have q4 := bne_eq_false_iff_eq.1 h4
                      have q6 := eq_of_beq h6
                      have q7 := bne_iff_ne.1 h7
                      have q8 := bne_eq_false_iff_eq.1 h8
                      have q9 := bne_iff_ne.1 h9
                      have e : (F7 a0) = false := by simp only [F7, h0, h1, h2, h3, h4, h5, h6, h7, h8, h9, cond_true, cond_false]
                      rw [e]
                      refine con_of (n := 9) Try.func7 rfl (ent Try.func7 (by kernel_rfl) rfl) (by show 1 ≤ Try.f7.ntmps; decide) (by kernel_rfl) trivial (fun cx hcx => ?_)
                      exact ret_of (T := T0) hT hm (f := 5000) (orc := [(oC7_0 a0), (oC7_1 a0), .d false, (oC7_9 a0), (oC7_10 a0), .d true, .d true, (oC7_11 a0), .d false, .d false, .d false, (oC7_21 a0), (oC7_22 a0), .d true, .d true, (oC7_23 a0), .d false, .d true]) [] [] [] hcx
                        (obs := [(oC7_3 a0), (oC7_4 a0), .eq (((F19 a0.1 a0.2.1 a0.2.2).2 : Int) == 0) false, (oC7_13 a0), (oC7_14 a0), .eq (((F21 a0.1 a0.2.1 a0.2.2).2 : Int) == 0) true, (oC7_15 a0), (oC7_16 a0), (oC7_17 a0), (oC7_19 a0), (oC7_24 a0), (oC7_25 a0), (oC7_26 a0), .eq (((F26 a0.1 a0.2.1 a0.2.2).2 : Int) == 0) true, (oC7_27 a0), (oC7_28 a0), (oC7_30 a0), (oC7_31 a0)]) (by kernel_rfl) ⟨(C19 a0.1 a0.2.1 a0.2.2), (C19 a0.1 a0.2.1 (W (a0.2.2 + 1))), h0, (C21 a0.1 a0.2.1 a0.2.2), (C21 a0.1 a0.2.1 (W (a0.2.2 + 1))), h1, h2, (C25 (F21 a0.1 a0.2.1 (W (a0.2.2 + 1))).1 (F21 a0.1 a0.2.1 a0.2.2).1), h3, h4, h5, (C26 a0.1 a0.2.1 a0.2.2), (C26 a0.1 a0.2.1 (W (a0.2.2 + 1))), h6, h7, (C25 (F26 a0.1 a0.2.1 (W (a0.2.2 + 1))).1 (F26 a0.1 a0.2.1 a0.2.2).1), h8, h9, trivial⟩
                    | false =>
                      cases h10 : (!(F25 (F26 a0.1 a0.2.1 (W (a0.2.2 + 1))).1 (F26 a0.1 a0.2.1 a0.2.2).1).1) with
                      | true =>
                        have q0 := ne_of_beq_false h0
                        have q1 := eq_of_beq h1
                        have q2 := bne_iff_ne.1 h2
                        have q3 := bne_eq_false_iff_eq.1 h3
                        have q4 := bne_eq_false_iff_eq.1 h4
                        have q6 := eq_of_beq h6
                        have q7 := bne_iff_ne.1 h7
                        have q8 := bne_eq_false_iff_eq.1 h8
                        have q9 := bne_eq_false_iff_eq.1 h9
                        have e : (F7 a0) = false := by simp only [F7, h0, h1, h2, h3, h4, h5, h6, h7, h8, h9, h10, cond_true, cond_false]
                        rw [e]
                        refine con_of (n := 9) Try.func7 rfl (ent Try.func7 (by kernel_rfl) rfl) (by show 1 ≤ Try.f7.ntmps; decide) (by kernel_rfl) trivial (fun cx hcx => ?_)
                        exact ret_of (T := T0) hT hm (f := 5000) (orc := [(oC7_0 a0), (oC7_1 a0), .d false, (oC7_9 a0), (oC7_10 a0), .d true, .d true, (oC7_11 a0), .d false, .d false, .d false, (oC7_21 a0), (oC7_22 a0), .d true, .d true, (oC7_23 a0), .d false, .d false, .d true]) [] [] [] hcx
                          (obs := [(oC7_3 a0), (oC7_4 a0), .eq (((F19 a0.1 a0.2.1 a0.2.2).2 : Int) == 0) false, (oC7_13 a0), (oC7_14 a0), .eq (((F21 a0.1 a0.2.1 a0.2.2).2 : Int) == 0) true, (oC7_15 a0), (oC7_16 a0), (oC7_17 a0), (oC7_19 a0), (oC7_24 a0), (oC7_25 a0), (oC7_26 a0), .eq (((F26 a0.1 a0.2.1 a0.2.2).2 : Int) == 0) true, (oC7_27 a0), (oC7_28 a0), (oC7_30 a0), (oC7_32 a0), (oC7_33 a0)]) (by kernel_rfl) ⟨(C19 a0.1 a0.2.1 a0.2.2), (C19 a0.1 a0.2.1 (W (a0.2.2 + 1))), h0, (C21 a0.1 a0.2.1 a0.2.2), (C21 a0.1 a0.2.1 (W (a0.2.2 + 1))), h1, h2, (C25 (F21 a0.1 a0.2.1 (W (a0.2.2 + 1))).1 (F21 a0.1 a0.2.1 a0.2.2).1), h3, h4, h5, (C26 a0.1 a0.2.1 a0.2.2), (C26 a0.1 a0.2.1 (W (a0.2.2 + 1))), h6, h7, (C25 (F26 a0.1 a0.2.1 (W (a0.2.2 + 1))).1 (F26 a0.1 a0.2.1 a0.2.2).1), h8, h9, h10, trivial⟩
                      | false =>
                        have q0 := ne_of_beq_false h0
                        have q1 := eq_of_beq h1
                        have q2 := bne_iff_ne.1 h2
                        have q3 := bne_eq_false_iff_eq.1 h3
                        have q4 := bne_eq_false_iff_eq.1 h4
                        have q6 := eq_of_beq h6
                        have q7 := bne_iff_ne.1 h7
                        have q8 := bne_eq_false_iff_eq.1 h8
                        have q9 := bne_eq_false_iff_eq.1 h9
                        have e : (F7 a0) = F16 := by simp only [F7, h0, h1, h2, h3, h4, h5, h6, h7, h8, h9, h10, cond_true, cond_false]
                        rw [e]
                        refine con_of (n := 9) Try.func7 rfl (ent Try.func7 (by kernel_rfl) rfl) (by show 1 ≤ Try.f7.ntmps; decide) (by kernel_rfl) trivial (fun cx hcx => ?_)
                        exact ret_of (T := T0) hT hm (f := 5000) (orc := [(oC7_0 a0), (oC7_1 a0), .d false, (oC7_9 a0), (oC7_10 a0), .d true, .d true, (oC7_11 a0), .d false, .d false, .d false, (oC7_21 a0), (oC7_22 a0), .d true, .d true, (oC7_23 a0), .d false, .d false, .d false, .call [] (.v (.bool F16)) []]) [] [] [] hcx
                          (obs := [(oC7_3 a0), (oC7_4 a0), .eq (((F19 a0.1 a0.2.1 a0.2.2).2 : Int) == 0) false, (oC7_13 a0), (oC7_14 a0), .eq (((F21 a0.1 a0.2.1 a0.2.2).2 : Int) == 0) true, (oC7_15 a0), (oC7_16 a0), (oC7_17 a0), (oC7_19 a0), (oC7_24 a0), (oC7_25 a0), (oC7_26 a0), .eq (((F26 a0.1 a0.2.1 a0.2.2).2 : Int) == 0) true, (oC7_27 a0), (oC7_28 a0), (oC7_30 a0), (oC7_32 a0), (oC7_34 a0), .call 16 [] [] (.v (.bool F16)) []]) (by kernel_rfl) ⟨(C19 a0.1 a0.2.1 a0.2.2), (C19 a0.1 a0.2.1 (W (a0.2.2 + 1))), h0, (C21 a0.1 a0.2.1 a0.2.2), (C21 a0.1 a0.2.1 (W (a0.2.2 + 1))), h1, h2, (C25 (F21 a0.1 a0.2.1 (W (a0.2.2 + 1))).1 (F21 a0.1 a0.2.1 a0.2.2).1), h3, h4, h5, (C26 a0.1 a0.2.1 a0.2.2), (C26 a0.1 a0.2.1 (W (a0.2.2 + 1))), h6, h7, (C25 (F26 a0.1 a0.2.1 (W (a0.2.2 + 1))).1 (F26 a0.1 a0.2.1 a0.2.2).1), h8, h9, h10, (C16), trivial⟩
                | false =>
                  have q0 := ne_of_beq_false h0
                  have q1 := eq_of_beq h1
                  have q2 := bne_iff_ne.1 h2
                  have q3 := bne_eq_false_iff_eq.1 h3
                  have q4 := bne_eq_false_iff_eq.1 h4
                  have q6 := eq_of_beq h6
                  have q7 := bne_eq_false_iff_eq.1 h7
                  have e : (F7 a0) = F16 := by simp only [F7, h0, h1, h2, h3, h4, h5, h6, h7, cond_true, cond_false]
                  rw [e]
                  refine con_of (n := 9) Try.func7 rfl (ent Try.func7 (by kernel_rfl) rfl) (by show 1 ≤ Try.f7.ntmps; decide) (by kernel_rfl) trivial (fun cx hcx => ?_)
                  exact ret_of (T := T0) hT hm (f := 5000) (orc := [(oC7_0 a0), (oC7_1 a0), .d false, (oC7_9 a0), (oC7_10 a0), .d true, .d true, (oC7_11 a0), .d false, .d false, .d false, (oC7_21 a0), (oC7_22 a0), .d true, .d false, .call [] (.v (.bool F16)) []]) [] [] [] hcx
                    (obs := [(oC7_3 a0), (oC7_4 a0), .eq (((F19 a0.1 a0.2.1 a0.2.2).2 : Int) == 0) false, (oC7_13 a0), (oC7_14 a0), .eq (((F21 a0.1 a0.2.1 a0.2.2).2 : Int) == 0) true, (oC7_15 a0), (oC7_16 a0), (oC7_17 a0), (oC7_19 a0), (oC7_24 a0), (oC7_25 a0), (oC7_26 a0), .eq (((F26 a0.1 a0.2.1 a0.2.2).2 : Int) == 0) true, (oC7_35 a0), .call 16 [] [] (.v (.bool F16)) []]) (by kernel_rfl) ⟨(C19 a0.1 a0.2.1 a0.2.2), (C19 a0.1 a0.2.1 (W (a0.2.2 + 1))), h0, (C21 a0.1 a0.2.1 a0.2.2), (C21 a0.1 a0.2.1 (W (a0.2.2 + 1))), h1, h2, (C25 (F21 a0.1 a0.2.1 (W (a0.2.2 + 1))).1 (F21 a0.1 a0.2.1 a0.2.2).1), h3, h4, h5, (C26 a0.1 a0.2.1 a0.2.2), (C26 a0.1 a0.2.1 (W (a0.2.2 + 1))), h6, h7, (C16), trivial⟩
              | false =>
                have q0 := ne_of_beq_false h0
                have q1 := eq_of_beq h1
                have q2 := bne_iff_ne.1 h2
                have q3 := bne_eq_false_iff_eq.1 h3
                have q4 := bne_eq_false_iff_eq.1 h4
                have q6 := ne_of_beq_false h6
                have e : (F7 a0) = F16 := by simp only [F7, h0, h1, h2, h3, h4, h5, h6, cond_true, cond_false]
                rw [e]
                refine con_of (n := 9) Try.func7 rfl (ent Try.func7 (by kernel_rfl) rfl) (by show 1 ≤ Try.f7.ntmps; decide) (by kernel_rfl) trivial (fun cx hcx => ?_)
                exact ret_of (T := T0) hT hm (f := 5000) (orc := [(oC7_0 a0), (oC7_1 a0), .d false, (oC7_9 a0), (oC7_10 a0), .d true, .d true, (oC7_11 a0), .d false, .d false, .d false, (oC7_21 a0), (oC7_22 a0), .d false, .call [] (.v (.bool F16)) []]) [] [] [] hcx
                  (obs := [(oC7_3 a0), (oC7_4 a0), .eq (((F19 a0.1 a0.2.1 a0.2.2).2 : Int) == 0) false, (oC7_13 a0), (oC7_14 a0), .eq (((F21 a0.1 a0.2.1 a0.2.2).2 : Int) == 0) true, (oC7_15 a0), (oC7_16 a0), (oC7_17 a0), (oC7_19 a0), (oC7_24 a0), (oC7_25 a0), (oC7_26 a0), .eq (((F26 a0.1 a0.2.1 a0.2.2).2 : Int) == 0) false, .call 16 [] [] (.v (.bool F16)) []]) (by kernel_rfl) ⟨(C19 a0.1 a0.2.1 a0.2.2), (C19 a0.1 a0.2.1 (W (a0.2.2 + 1))), h0, (C21 a0.1 a0.2.1 a0.2.2), (C21 a0.1 a0.2.1 (W (a0.2.2 + 1))), h1, h2, (C25 (F21 a0.1 a0.2.1 (W (a0.2.2 + 1))).1 (F21 a0.1 a0.2.1 a0.2.2).1), h3, h4, h5, (C26 a0.1 a0.2.1 a0.2.2), (C26 a0.1 a0.2.1 (W (a0.2.2 + 1))), h6, (C16), trivial⟩
      | false =>
        cases h3 : (((F26 a0.1 a0.2.1 a0.2.2).2 : Int) == 0) with
        | true =>
          cases h4 : (((F26 a0.1 a0.2.1 (W (a0.2.2 + 1))).2 : Int) != 1) with
          | true =>
            cases h5 : (((F26 a0.1 a0.2.1 (W (a0.2.2 + 1))).2 : Int) != 0) with
            | true =>
              have q0 := ne_of_beq_false h0
              have q1 := eq_of_beq h1
              have q2 := bne_eq_false_iff_eq.1 h2
              have q3 := eq_of_beq h3
              have q4 := bne_iff_ne.1 h4
              have q5 := bne_iff_ne.1 h5
              have e : (F7 a0) = false := by simp only [F7, h0, h1, h2, h3, h4, h5, cond_true, cond_false]
              rw [e]
              refine con_of (n := 9) Try.func7 rfl (ent Try.func7 (by kernel_rfl) rfl) (by show 1 ≤ Try.f7.ntmps; decide) (by kernel_rfl) trivial (fun cx hcx => ?_)
              exact ret_of (T := T0) hT hm (f := 5000) (orc := [(oC7_0 a0), (oC7_1 a0), .d false, (oC7_9 a0), (oC7_10 a0), .d true, .d false, (oC7_21 a0), (oC7_22 a0), .d true, .d true, (oC7_23 a0), .d true]) [] [] [] hcx
                (obs := [(oC7_3 a0), (oC7_4 a0), .eq (((F19 a0.1 a0.2.1 a0.2.2).2 : Int) == 0) false, (oC7_13 a0), (oC7_14 a0), .eq (((F21 a0.1 a0.2.1 a0.2.2).2 : Int) == 0) true, (oC7_36 a0), (oC7_25 a0), (oC7_26 a0), .eq (((F26 a0.1 a0.2.1 a0.2.2).2 : Int) == 0) true, (oC7_27 a0), (oC7_28 a0), (oC7_29 a0)]) (by kernel_rfl) ⟨(C19 a0.1 a0.2.1 a0.2.2), (C19 a0.1 a0.2.1 (W (a0.2.2 + 1))), h0, (C21 a0.1 a0.2.1 a0.2.2), (C21 a0.1 a0.2.1 (W (a0.2.2 + 1))), h1, h2, (C26 a0.1 a0.2.1 a0.2.2), (C26 a0.1 a0.2.1 (W (a0.2.2 + 1))), h3, h4, (C25 (F26 a0.1 a0.2.1 (W (a0.2.2 + 1))).1 (F26 a0.1 a0.2.1 a0.2.2).1), h5, trivial⟩
            | false =>
              cases h6 : (((F25 (F26 a0.1 a0.2.1 (W (a0.2.2 + 1))).1 (F26 a0.1 a0.2.1 a0.2.2).1).2 : Int) != 0) with
              | true =>
                have q0 := ne_of_beq_false h0
                have q1 := eq_of_beq h1
                have q2 := bne_eq_false_iff_eq.1 h2
                have q3 := eq_of_beq h3
                have q4 := bne_iff_ne.1 h4
                have q5 := bne_eq_false_iff_eq.1 h5
                have q6 := bne_iff_ne.1 h6
                have e : (F7 a0) = false := by simp only [F7, h0, h1, h2, h3, h4, h5, h6, cond_true, cond_false]
                rw [e]
                refine con_of (n := 9) Try.func7 rfl (ent Try.func7 (by kernel_rfl) rfl) (by show 1 ≤ Try.f7.ntmps; decide) (by kernel_rfl) trivial (fun cx hcx => ?_)
                exact ret_of (T := T0) hT hm (f := 5000) (orc := [(oC7_0 a0), (oC7_1 a0), .d false, (oC7_9 a0), (oC7_10 a0), .d true, .d false, (oC7_21 a0), (oC7_22 a0), .d true, .d true, (oC7_23 a0), .d false, .d true]) [] [] [] hcx
                  (obs := [(oC7_3 a0), (oC7_4 a0), .eq (((F19 a0.1 a0.2.1 a0.2.2).2 : Int) == 0) false, (oC7_13 a0), (oC7_14 a0), .eq (((F21 a0.1 a0.2.1 a0.2.2).2 : Int) == 0) true, (oC7_36 a0), (oC7_25 a0), (oC7_26 a0), .eq (((F26 a0.1 a0.2.1 a0.2.2).2 : Int) == 0) true, (oC7_27 a0), (oC7_28 a0), (oC7_30 a0), (oC7_31 a0)]) (by kernel_rfl) ⟨(C19 a0.1 a0.2.1 a0.2.2), (C19 a0.1 a0.2.1 (W (a0.2.2 + 1))), h0, (C21 a0.1 a0.2.1 a0.2.2), (C21 a0.1 a0.2.1 (W (a0.2.2 + 1))), h1, h2, (C26 a0.1 a0.2.1 a0.2.2), (C26 a0.1 a0.2.1 (W (a0.2.2 + 1))), h3, h4, (C25 (F26 a0.1 a0.2.1 (W (a0.2.2 + 1))).1 (F26 a0.1 a0.2.1 a0.2.2).1), h5, h6, trivial⟩
              | false =>
                cases h7 : (!(F25 (F26 a0.1 a0.2.1 (W (a0.2.2 + 1))).1 (F26 a0.1 a0.2.1 a0.2.2).1).1) with
                | true =>
                  have q0 := ne_of_beq_false h0
                  have q1 := eq_of_beq h1
                  have q2 := bne_eq_false_iff_eq.1 h2
                  have q3 := eq_of_beq h3
                  have q4 := bne_iff_ne.1 h4
                  have q5 := bne_eq_false_iff_eq.1 h5
                  have q6 := bne_eq_false_iff_eq.1 h6
                  have e : (F7 a0) = false := by simp only [F7, h0, h1, h2, h3, h4, h5, h6, h7, cond_true, cond_false]
                  rw [e]
                  refine con_of (n := 9) Try.func7 rfl (ent Try.func7 (by kernel_rfl) rfl) (by show 1 ≤ Try.f7.ntmps; decide) (by kernel_rfl) trivial (fun cx hcx => ?_)
                  exact ret_of (T := T0) hT hm (f := 5000) (orc := [(oC7_0 a0), (oC7_1 a0), .d false, (oC7_9 a0), (oC7_10 a0), .d true, .d false, (oC7_21 a0), (oC7_22 a0), .d true, .d true, (oC7_23 a0), .d false, .d false, .d true]) [] [] [] hcx
                    (obs := [(oC7_3 a0), (oC7_4 a0), .eq (((F19 a0.1 a0.2.1 a0.2.2).2 : Int) == 0) false, (oC7_13 a0), (oC7_14 a0), .eq (((F21 a0.1 a0.2.1 a0.2.2).2 : Int) == 0) true, (oC7_36 a0), (oC7_25 a0), (oC7_26 a0), .eq (((F26 a0.1 a0.2.1 a0.2.2).2 : Int) == 0) true, (oC7_27 a0), (oC7_28 a0), (oC7_30 a0), (oC7_32 a0), (oC7_33 a0)]) (by kernel_rfl) ⟨(C19 a0.1 a0.2.1 a0.2.2), (C19 a0.1 a0.2.1 (W (a0.2.2 + 1))), h0, (C21 a0.1 a0.2.1 a0.2.2), (C21 a0.1 a0.2.1 (W (a0.2.2 + 1))), h1, h2, (C26 a0.1 a0.2.1 a0.2.2), (C26 a0.1 a0.2.1 (W (a0.2.2 + 1))), h3, h4, (C25 (F26 a0.1 a0.2.1 (W (a0.2.2 + 1))).1 (F26 a0.1 a0.2.1 a0.2.2).1), h5, h6, h7, trivial⟩
                | false =>
                  have q0 := ne_of_beq_false h0
                  have q1 := eq_of_beq h1
                  have q2 := bne_eq_false_iff_eq.1 h2
                  have q3 := eq_of_beq h3
                  have q4 := bne_iff_ne.1 h4
                  have q5 := bne_eq_false_iff_eq.1 h5
                  have q6 := bne_eq_false_iff_eq.1 h6
                  have e : (F7 a0) = F16 := by simp only [F7, h0, h1, h2, h3, h4, h5, h6, h7, cond_true, cond_false]
                  rw [e]
                  refine con_of (n := 9) Try.func7 rfl (ent Try.func7 (by kernel_rfl) rfl) (by show 1 ≤ Try.f7.ntmps; decide) (by kernel_rfl) trivial (fun cx hcx => ?_)
                  exact ret_of (T := T0) hT hm (f := 5000) (orc := [(oC7_0 a0), (oC7_1 a0), .d false, (oC7_9 a0), (oC7_10 a0), .d true, .d false, (oC7_21 a0), (oC7_22 a0), .d true, .d true, (oC7_23 a0), .d false, .d false, .d false, .call [] (.v (.bool F16)) []]) [] [] [] hcx
                    (obs := [(oC7_3 a0), (oC7_4 a0), .eq (((F19 a0.1 a0.2.1 a0.2.2).2 : Int) == 0) false, (oC7_13 a0), (oC7_14 a0), .eq (((F21 a0.1 a0.2.1 a0.2.2).2 : Int) == 0) true, (oC7_36 a0), (oC7_25 a0), (oC7_26 a0), .eq (((F26 a0.1 a0.2.1 a0.2.2).2 : Int) == 0) true, (oC7_27 a0), (oC7_28 a0), (oC7_30 a0), (oC7_32 a0), (oC7_34 a0), .call 16 [] [] (.v (.bool F16)) []]) (by kernel_rfl) ⟨(C19 a0.1 a0.2.1 a0.2.2), (C19 a0.1 a0.2.1 (W (a0.2.2 + 1))), h0, (C21 a0.1 a0.2.1 a0.2.2), (C21 a0.1 a0.2.1 (W (a0.2.2 + 1))), h1, h2, (C26 a0.1 a0.2.1 a0.2.2), (C26 a0.1 a0.2.1 (W (a0.2.2 + 1))), h3, h4, (C25 (F26 a0.1 a0.2.1 (W (a0.2.2 + 1))).1 (F26 a0.1 a0.2.1 a0.2.2).1), h5, h6, h7, (C16), trivial⟩
          | false =>
            have q0 := ne_of_beq_false h0
            have q1 := eq_of_beq h1
            have q2 := bne_eq_false_iff_eq.1 h2
            have q3 := eq_of_beq h3
            have q4 := bne_eq_false_iff_eq.1 h4
            have e : (F7 a0) = F16 := by simp only [F7, h0, h1, h2, h3, h4, cond_true, cond_false]
            rw [e]
            refine con_of (n := 9) Try.func7 rfl (ent Try.func7 (by kernel_rfl) rfl) (by show 1 ≤ Try.f7.ntmps; decide) (by kernel_rfl) trivial (fun cx hcx => ?_)
            exact ret_of (T := T0) hT hm (f := 5000) (orc := [(oC7_0 a0), (oC7_1 a0), .d false, (oC7_9 a0), (oC7_10 a0), .d true, .d false, (oC7_21 a0), (oC7_22 a0), .d true, .d false, .call [] (.v (.bool F16)) []]) [] [] [] hcx
              (obs := [(oC7_3 a0), (oC7_4 a0), .eq (((F19 a0.1 a0.2.1 a0.2.2).2 : Int) == 0) false, (oC7_13 a0), (oC7_14 a0), .eq (((F21 a0.1 a0.2.1 a0.2.2).2 : Int) == 0) true, (oC7_36 a0), (oC7_25 a0), (oC7_26 a0), .eq (((F26 a0.1 a0.2.1 a0.2.2).2 : Int) == 0) true, (oC7_35 a0), .call 16 [] [] (.v (.bool F16)) []]) (by kernel_rfl) ⟨(C19 a0.1 a0.2.1 a0.2.2), (C19 a0.1 a0.2.1 (W (a0.2.2 + 1))), h0, (C21 a0.1 a0.2.1 a0.2.2), (C21 a0.1 a0.2.1 (W (a0.2.2 + 1))), h1, h2, (C26 a0.1 a0.2.1 a0.2.2), (C26 a0.1 a0.2.1 (W (a0.2.2 + 1))), h3, h4, (C16), trivial⟩
        | false =>
          have q0 := ne_of_beq_false h0
          have q1 := eq_of_beq h1
          have q2 := bne_eq_false_iff_eq.1 h2
          have q3 := ne_of_beq_false h3
          have e : (F7 a0) = F16 := by simp only [F7, h0, h1, h2, h3, cond_true, cond_false]
          rw [e]
          refine con_of (n := 9) Try.func7 rfl (ent Try.func7 (by kernel_rfl) rfl) (by show 1 ≤ Try.f7.ntmps; decide) (by kernel_rfl) trivial (fun cx hcx => ?_)
          exact ret_of (T := T0) hT hm (f := 5000) (orc := [(oC7_0 a0), (oC7_1 a0), .d false, (oC7_9 a0), (oC7_10 a0), .d true, .d false, (oC7_21 a0), (oC7_22 a0), .d false, .call [] (.v (.bool F16)) []]) [] [] [] hcx
            (obs := [(oC7_3 a0), (oC7_4 a0), .eq (((F19 a0.1 a0.2.1 a0.2.2).2 : Int) == 0) false, (oC7_13 a0), (oC7_14 a0), .eq (((F21 a0.1 a0.2.1 a0.2.2).2 : Int) == 0) true, (oC7_36 a0), (oC7_25 a0), (oC7_26 a0), .eq (((F26 a0.1 a0.2.1 a0.2.2).2 : Int) == 0) false, .call 16 [] [] (.v (.bool F16)) []]) (by kernel_rfl) ⟨(C19 a0.1 a0.2.1 a0.2.2), (C19 a0.1 a0.2.1 (W (a0.2.2 + 1))), h0, (C21 a0.1 a0.2.1 a0.2.2), (C21 a0.1 a0.2.1 (W (a0.2.2 + 1))), h1, h2, (C26 a0.1 a0.2.1 a0.2.2), (C26 a0.1 a0.2.1 (W (a0.2.2 + 1))), h3, (C16), trivial⟩
    | false =>
      cases h2 : (((F26 a0.1 a0.2.1 a0.2.2).2 : Int) == 0) with
      | true =>
        cases h3 : (((F26 a0.1 a0.2.1 (W (a0.2.2 + 1))).2 : Int) != 1) with
        | true =>
          cases h4 : (((F26 a0.1 a0.2.1 (W (a0.2.2 + 1))).2 : Int) != 0) with
          | true =>
            have q0 := ne_of_beq_false h0
            have q1 := ne_of_beq_false h1
            have q2 := eq_of_beq h2
            have q3 := bne_iff_ne.1 h3
            have q4 := bne_iff_ne.1 h4
            have e : (F7 a0) = false := by simp only [F7, h0, h1, h2, h3, h4, cond_true, cond_false]
            rw [e]
            refine con_of (n := 9) Try.func7 rfl (ent Try.func7 (by kernel_rfl) rfl) (by show 1 ≤ Try.f7.ntmps; decide) (by kernel_rfl) trivial (fun cx hcx => ?_)
            exact ret_of (T := T0) hT hm (f := 5000) (orc := [(oC7_0 a0), (oC7_1 a0), .d false, (oC7_9 a0), (oC7_10 a0), .d false, (oC7_21 a0), (oC7_22 a0), .d true, .d true, (oC7_23 a0), .d true]) [] [] [] hcx
              (obs := [(oC7_3 a0), (oC7_4 a0), .eq (((F19 a0.1 a0.2.1 a0.2.2).2 : Int) == 0) false, (oC7_13 a0), (oC7_14 a0), .eq (((F21 a0.1 a0.2.1 a0.2.2).2 : Int) == 0) false, (oC7_25 a0), (oC7_26 a0), .eq (((F26 a0.1 a0.2.1 a0.2.2).2 : Int) == 0) true, (oC7_27 a0), (oC7_28 a0), (oC7_29 a0)]) (by kernel_rfl) ⟨(C19 a0.1 a0.2.1 a0.2.2), (C19 a0.1 a0.2.1 (W (a0.2.2 + 1))), h0, (C21 a0.1 a0.2.1 a0.2.2), (C21 a0.1 a0.2.1 (W (a0.2.2 + 1))), h1, (C26 a0.1 a0.2.1 a0.2.2), (C26 a0.1 a0.2.1 (W (a0.2.2 + 1))), h2, h3, (C25 (F26 a0.1 a0.2.1 (W (a0.2.2 + 1))).1 (F26 a0.1 a0.2.1 a0.2.2).1), h4, trivial⟩
          | false =>
            cases h5 : (((F25 (F26 a0.1 a0.2.1 (W (a0.2.2 + 1))).1 (F26 a0.1 a0.2.1 a0.2.2).1).2 : Int) != 0) with
            | true =>
              have q0 := ne_of_beq_false h0
              have q1 := ne_of_beq_false h1
              have q2 := eq_of_beq h2
              have q3 := bne_iff_ne.1 h3
              have q4 := bne_eq_false_iff_eq.1 h4
              have q5 := bne_iff_ne.1 h5
              have e : (F7 a0) = false := by simp only [F7, h0, h1, h2, h3, h4, h5, cond_true, cond_false]
              rw [e]
              refine con_of (n := 9) Try.func7 rfl (ent Try.func7 (by kernel_rfl) rfl) (by show 1 ≤ Try.f7.ntmps; decide) (by kernel_rfl) trivial (fun cx hcx => ?_)
              exact ret_of (T := T0) hT hm (f := 5000) (orc := [(oC7_0 a0), (oC7_1 a0), .d false, (oC7_9 a0), (oC7_10 a0), .d false, (oC7_21 a0), (oC7_22 a0), .d true, .d true, (oC7_23 a0), .d false, .d true]) [] [] [] hcx
                (obs := [(oC7_3 a0), (oC7_4 a0), .eq (((F19 a0.1 a0.2.1 a0.2.2).2 : Int) == 0) false, (oC7_13 a0), (oC7_14 a0), .eq (((F21 a0.1 a0.2.1 a0.2.2).2 : Int) == 0) false, (oC7_25 a0), (oC7_26 a0), .eq (((F26 a0.1 a0.2.1 a0.2.2).2 : Int) == 0) true, (oC7_27 a0), (oC7_28 a0), (oC7_30 a0), (oC7_31 a0)]) (by kernel_rfl) ⟨(C19 a0.1 a0.2.1 a0.2.2), (C19 a0.1 a0.2.1 (W (a0.2.2 + 1))), h0, (C21 a0.1 a0.2.1 a0.2.2), (C21 a0.1 a0.2.1 (W (a0.2.2 + 1))), h1, (C26 a0.1 a0.2.1 a0.2.2), (C26 a0.1 a0.2.1 (W (a0.2.2 + 1))), h2, h3, (C25 (F26 a0.1 a0.2.1 (W (a0.2.2 + 1))).1 (F26 a0.1 a0.2.1 a0.2.2).1), h4, h5, trivial⟩
            | false =>
              cases h6 : (!(F25 (F26 a0.1 a0.2.1 (W (a0.2.2 + 1))).1 (F26 a0.1 a0.2.1 a0.2.2).1).1) with
              | true =>
                have q0 := ne_of_beq_false h0
                have q1 := ne_of_beq_false h1
                have q2 := eq_of_beq h2
                have q3 := bne_iff_ne.1 h3
                have q4 := bne_eq_false_iff_eq.1 h4
                have q5 := bne_eq_false_iff_eq.1 h5
                have e : (F7 a0) = false := by simp only [F7, h0, h1, h2, h3, h4, h5, h6, cond_true, cond_false]
                rw [e]
                refine con_of (n := 9) Try.func7 rfl (ent Try.func7 (by kernel_rfl) rfl) (by show 1 ≤ Try.f7.ntmps; decide) (by kernel_rfl) trivial (fun cx hcx => ?_)
                exact ret_of (T := T0) hT hm (f := 5000) (orc := [(oC7_0 a0), (oC7_1 a0), .d false, (oC7_9 a0), (oC7_10 a0), .d false, (oC7_21 a0), (oC7_22 a0), .d true, .d true, (oC7_23 a0), .d false, .d false, .d true]) [] [] [] hcx
                  (obs := [(oC7_3 a0), (oC7_4 a0), .eq (((F19 a0.1 a0.2.1 a0.2.2).2 : Int) == 0) false, (oC7_13 a0), (oC7_14 a0), .eq (((F21 a0.1 a0.2.1 a0.2.2).2 : Int) == 0) false, (oC7_25 a0), (oC7_26 a0), .eq (((F26 a0.1 a0.2.1 a0.2.2).2 : Int) == 0) true, (oC7_27 a0), (oC7_28 a0), (oC7_30 a0), (oC7_32 a0), (oC7_33 a0)]) (by kernel_rfl) ⟨(C19 a0.1 a0.2.1 a0.2.2), (C19 a0.1 a0.2.1 (W (a0.2.2 + 1))), h0, (C21 a0.1 a0.2.1 a0.2.2), (C21 a0.1 a0.2.1 (W (a0.2.2 + 1))), h1, (C26 a0.1 a0.2.1 a0.2.2), (C26 a0.1 a0.2.1 (W (a0.2.2 + 1))), h2, h3, (C25 (F26 a0.1 a0.2.1 (W (a0.2.2 + 1))).1 (F26 a0.1 a0.2.1 a0.2.2).1), h4, h5, h6, trivial⟩
              | false =>
                have q0 := ne_of_beq_false h0
                have q1 := ne_of_beq_false h1
                have q2 := eq_of_beq h2
                have q3 := bne_iff_ne.1 h3
                have q4 := bne_eq_false_iff_eq.1 h4
                have q5 := bne_eq_false_iff_eq.1 h5
                have e : (F7 a0) = F16 := by simp only [F7, h0, h1, h2, h3, h4, h5, h6, cond_true, cond_false]
                rw [e]
                refine con_of (n := 9) Try.func7 rfl (ent Try.func7 (by kernel_rfl) rfl) (by show 1 ≤ Try.f7.ntmps; decide) (by kernel_rfl) trivial (fun cx hcx => ?_)
                exact ret_of (T := T0) hT hm (f := 5000) (orc := [(oC7_0 a0), (oC7_1 a0), .d false, (oC7_9 a0), (oC7_10 a0), .d false, (oC7_21 a0), (oC7_22 a0), .d true, .d true, (oC7_23 a0), .d false, .d false, .d false, .call [] (.v (.bool F16)) []]) [] [] [] hcx
                  (obs := [(oC7_3 a0), (oC7_4 a0), .eq (((F19 a0.1 a0.2.1 a0.2.2).2 : Int) == 0) false, (oC7_13 a0), (oC7_14 a0), .eq (((F21 a0.1 a0.2.1 a0.2.2).2 : Int) == 0) false, (oC7_25 a0), (oC7_26 a0), .eq (((F26 a0.1 a0.2.1 a0.2.2).2 : Int) == 0) true, (oC7_27 a0), (oC7_28 a0), (oC7_30 a0), (oC7_32 a0), (oC7_34 a0), .call 16 [] [] (.v (.bool F16)) []]) (by kernel_rfl) ⟨(C19 a0.1 a0.2.1 a0.2.2), (C19 a0.1 a0.2.1 (W (a0.2.2 + 1))), h0, (C21 a0.1 a0.2.1 a0.2.2), (C21 a0.1 a0.2.1 (W (a0.2.2 + 1))), h1, (C26 a0.1 a0.2.1 a0.2.2), (C26 a0.1 a0.2.1 (W (a0.2.2 + 1))), h2, h3, (C25 (F26 a0.1 a0.2.1 (W (a0.2.2 + 1))).1 (F26 a0.1 a0.2.1 a0.2.2).1), h4, h5, h6, (C16), trivial⟩
        | false =>
          have q0 := ne_of_beq_false h0
          have q1 := ne_of_beq_false h1
          have q2 := eq_of_beq h2
          have q3 := bne_eq_false_iff_eq.1 h3
          have e : (F7 a0) = F16 := by simp only [F7, h0, h1, h2, h3, cond_true, cond_false]
          rw [e]
          refine con_of (n := 9) Try.func7 rfl (ent Try.func7 (by kernel_rfl) rfl) (by show 1 ≤ Try.f7.ntmps; decide) (by kernel_rfl) trivial (fun cx hcx => ?_)
          exact ret_of (T := T0) hT hm (f := 5000) (orc := [(oC7_0 a0), (oC7_1 a0), .d false, (oC7_9 a0), (oC7_10 a0), .d false, (oC7_21 a0), (oC7_22 a0), .d true, .d false, .call [] (.v (.bool F16)) []]) [] [] [] hcx
            (obs := [(oC7_3 a0), (oC7_4 a0), .eq (((F19 a0.1 a0.2.1 a0.2.2).2 : Int) == 0) false, (oC7_13 a0), (oC7_14 a0), .eq (((F21 a0.1 a0.2.1 a0.2.2).2 : Int) == 0) false, (oC7_25 a0), (oC7_26 a0), .eq (((F26 a0.1 a0.2.1 a0.2.2).2 : Int) == 0) true, (oC7_35 a0), .call 16 [] [] (.v (.bool F16)) []]) (by kernel_rfl) ⟨(C19 a0.1 a0.2.1 a0.2.2), (C19 a0.1 a0.2.1 (W (a0.2.2 + 1))), h0, (C21 a0.1 a0.2.1 a0.2.2), (C21 a0.1 a0.2.1 (W (a0.2.2 + 1))), h1, (C26 a0.1 a0.2.1 a0.2.2), (C26 a0.1 a0.2.1 (W (a0.2.2 + 1))), h2, h3, (C16), trivial⟩
      | false =>
        have q0 := ne_of_beq_false h0
        have q1 := ne_of_beq_false h1
        have q2 := ne_of_beq_false h2
        have e : (F7 a0) = F16 := by simp only [F7, h0, h1, h2, cond_true, cond_false]
        rw [e]
        refine con_of (n := 9) Try.func7 rfl (ent Try.func7 (by kernel_rfl) rfl) (by show 1 ≤ Try.f7.ntmps; decide) (by kernel_rfl) trivial (fun cx hcx => ?_)
        exact ret_of (T := T0) hT hm (f := 5000) (orc := [(oC7_0 a0), (oC7_1 a0), .d false, (oC7_9 a0), (oC7_10 a0), .d false, (oC7_21 a0), (oC7_22 a0), .d false, .call [] (.v (.bool F16)) []]) [] [] [] hcx
          (obs := [(oC7_3 a0), (oC7_4 a0), .eq (((F19 a0.1 a0.2.1 a0.2.2).2 : Int) == 0) false, (oC7_13 a0), (oC7_14 a0), .eq (((F21 a0.1 a0.2.1 a0.2.2).2 : Int) == 0) false, (oC7_25 a0), (oC7_26 a0), .eq (((F26 a0.1 a0.2.1 a0.2.2).2 : Int) == 0) false, .call 16 [] [] (.v (.bool F16)) []]) (by kernel_rfl) ⟨(C19 a0.1 a0.2.1 a0.2.2), (C19 a0.1 a0.2.1 (W (a0.2.2 + 1))), h0, (C21 a0.1 a0.2.1 a0.2.2), (C21 a0.1 a0.2.1 (W (a0.2.2 + 1))), h1, (C26 a0.1 a0.2.1 a0.2.2), (C26 a0.1 a0.2.1 (W (a0.2.2 + 1))), h2, (C16), trivial⟩

/-! ### FieldFiner -/
theorem Inside_ok {b a : Int × Int} (hb : vs b) (ha : vs a) (h : ins b a) : F25 b a = (true, 0) := by
  unfold F25
  rw [val_r (a := b.1) (b := b.2) hb.1 hb.2.1 hb.2.2, val_r (a := a.1) (b := a.2) ha.1 ha.2.1 ha.2.2, decide_eq_true h.1, decide_eq_true h.2]; rfl
/-- what a step of the law sees -/
theorem three {a b : (Int × Int) × Int} (h : a.2 = 0 → b.2 ≠ 1 → b.2 = 0 ∧ vs b.1 ∧ vs a.1 ∧ ins b.1 a.1) :
    ((a.2 : Int) == 0) = false ∨ (((a.2 : Int) == 0) = true ∧ ((b.2 : Int) != 1) = false) ∨ (((a.2 : Int) == 0) = true ∧ ((b.2 : Int) != 1) = true ∧ ((b.2 : Int) != 0) = false ∧ F25 b.1 a.1 = (true, 0)) := by
  by_cases h1 : a.2 = 0
  · by_cases h2 : b.2 = 1
    · exact Or.inr (Or.inl ⟨beq_iff_eq.2 h1, by rw [h2]; rfl⟩)
    · obtain ⟨k1, k2, k3, k4⟩ := h h1 h2
      exact Or.inr (Or.inr ⟨beq_iff_eq.2 h1, bne_iff_ne.2 h2, by rw [k1]; rfl, Inside_ok k2 k3 k4⟩)
  · exact Or.inl (beq_eq_false_iff_ne.2 h1)
theorem W_next {of : Int → Int → Int × Int} {p : PN} {x : P3} {d : Int} (ho : ∀ s, s = 1 ∨ s = 2 ∨ s = 4 ∨ s = 8 → OfOk (of s)) (h : (meanV of p x d).2 = 0) : W (d + 1) = d + 1 := by
  have := (ck_ok (meanV_vs ho h).1).2.2
  exact W_eq (by omega) (by omega)
theorem law_finer (a : PN × P3 × Int) : F7 a = true := by
  have t1 := three (a := F19 a.1 a.2.1 a.2.2) (b := F19 a.1 a.2.1 (W (a.2.2 + 1))) (fun h h1 => by
    rw [Mean_f] at h ⊢; rw [Mean_f] at h1 ⊢; rw [W_next of1_all h] at *; exact meanV_fine of1_all (fun s hs => rel1 hs) h h1)
  have t2 := three (a := F21 a.1 a.2.1 a.2.2) (b := F21 a.1 a.2.1 (W (a.2.2 + 1))) (fun h h1 => by
    rw [Cube_f] at h ⊢; rw [Cube_f] at h1 ⊢; rw [W_next of3_all h] at *; exact meanV_fine of3_all (fun s hs => rel3 hs) h h1)
  have t3 := three (a := F26 a.1 a.2.1 a.2.2) (b := F26 a.1 a.2.1 (W (a.2.2 + 1))) (fun h h1 => by
    rw [Angle_f] at h ⊢; rw [Angle_f] at h1 ⊢
    have hm : (meanV of3 a.1 a.2.1 a.2.2).2 = 0 := by
      by_cases hm : (meanV of3 a.1 a.2.1 a.2.2).2 = 0
      · exact hm
      · unfold angV at h; rw [if_neg hm] at h; exact absurd h hm
    rw [W_next of3_all hm] at *; exact angV_fine h h1)
  unfold F7
  rw [known_t]
  rcases t1 with h1 | ⟨h1, h2⟩ | ⟨h1, h2, h3, h4⟩ <;> rcases t2 with g1 | ⟨g1, g2⟩ | ⟨g1, g2, g3, g4⟩ <;> rcases t3 with f1 | ⟨f1, f2⟩ | ⟨f1, f2, f3, f4⟩ <;> simp only [*, cond_true, cond_false, bne_self_eq_false, Bool.not_true]

open Go.ChangeShapes Go.WideShapes Go.ChangeAt
theorem fieldFiner_len13 {l : List Int} (h : l.length = 13) : ∃ a0 a1 a2 a3 a4 a5 a6 a7 a8 a9 a10 a11 a12, l = [a0, a1, a2, a3, a4, a5, a6, a7, a8, a9, a10, a11, a12] := by
  match l, h with
  | [a0, a1, a2, a3, a4, a5, a6, a7, a8, a9, a10, a11, a12], _ => exact ⟨a0, a1, a2, a3, a4, a5, a6, a7, a8, a9, a10, a11, a12, rfl⟩
set_option maxRecDepth 100000 in
theorem fieldFiner_lifted (os : Os) (started : os.Started) (H : Type) (enc : TypeId × Value → H) :
    ReturnsInHanded {} Try.checked os 7 .any (Rows.fieldFinerSpec.pre6 enc Try.prog Try.f7 Rows.fieldFinerRow.domain false) (Rows.fieldFinerSpec.post enc Try.prog Try.f7 false true false false) := by
  refine returnsInHanded_of_change (C := Try.checked) own started (by kernel_rfl) Try.func7
    (ChangeSpec.witness6 (enc := enc) (C := Try.checked) false ⟨#[], #[.agg #[.int .i64 0, .int .i64 0, .int .i64 0, .int .i64 0, .int .i64 0, .int .i64 0, .int .i64 0, .int .i64 0, .int .i64 0, .int .i64 0, .int .i64 0, .int .i64 0, .int .i64 0]], []⟩ 8 (by kernel_rfl) (by kernel_rfl) (by kernel_rfl) (by kernel_rfl)) ?_
  intro W base args ds gs before hval0 hW hcnd _
  have hval : ∀ (j : Nat) t v, Try.f7.params[j]? = some t → args[j]? = some v → Value.okWide Try.prog W .any base t v := hval0
  have hW' := hW
  obtain ⟨p, q, hA0, hV, rfl, hfz, hnd⟩ := hW
  have hA : DataW.TrodAll enc Try.prog W 0 (fun _ => true) true Try.f7.params.toList args.toList ds p := hA0
  rw [Try.params7] at hA hval
  obtain ⟨v0, vs0, d0, ds0, p0, q0, hargs, rfl, rfl, h0, r0⟩ := trodAll_cons hA
  obtain ⟨rfl, rfl, rfl⟩ := trodAll_nil r0
  obtain rfl : args = #[v0] := by cases args; simp_all
  obtain ⟨rfl, rfl⟩ := trodVars_none hV
  obtain ⟨rfl, ns0, rfl, l0⟩ := open_flat Try.underlying38 (by kernel_rfl) (hval 0 38 v0 rfl rfl) h0
  rw [show Try.prog.cellsOf 38 = 13 from by kernel_rfl] at l0
  obtain ⟨x0_0, x0_1, x0_2, x0_3, x0_4, x0_5, x0_6, x0_7, x0_8, x0_9, x0_10, x0_11, x0_12, rfl⟩ := fieldFiner_len13 l0
  clear hA0 hval0 hval hA
  simp only [List.append_nil] at hW'
  have hC : Con Try.prog 7 [.a ([x0_0, x0_1, x0_2, x0_3, x0_4, x0_5, x0_6, x0_7, x0_8, x0_9, x0_10, x0_11, x0_12].map iv)] [] (.v (.bool true)) [] := by
    have h := C7 (((x0_0, x0_1, x0_2), (x0_3, x0_4, x0_5), (x0_6, x0_7, x0_8)), (x0_9, x0_10, x0_11), x0_12)
    rw [law_finer] at h
    exact h
  refine (law_calls (vs := [.agg ([x0_0, x0_1, x0_2, x0_3, x0_4, x0_5, x0_6, x0_7, x0_8, x0_9, x0_10, x0_11, x0_12].map (Value.int .i64)).toArray]) hC ⟨rel_agg [x0_0, x0_1, x0_2, x0_3, x0_4, x0_5, x0_6, x0_7, x0_8, x0_9, x0_10, x0_11, x0_12], trivial⟩ W).mono fun e W' ⟨he, hb⟩ => ?_
  subst he
  exact ⟨_, rfl, post_below (before := []) hW' hb (fun _ _ _ => (all_mk (shut_bool Try.underlying4 _) trodAll_mk0)) (all_mk (Below.trod laidOut (by kernel_rfl) (of_decide_eq_true (by kernel_rfl)) h0 hb (fun x hx => by cases hx)) trodAll_mk0) rfl⟩
theorem fieldFiner_over : Rows.fieldFinerRow.holds Try.pinned (OpenSpec.ofChange Rows.fieldFinerSpec) :=
  OpenClaim.holds_of_wide 7 Try.f7 rfl rfl rfl rfl rfl rfl rfl ⟨rfl, rfl, rfl, rfl, rfl⟩ rfl rfl rfl rfl rfl (by kernel_rfl) Try.func7 (by kernel_rfl)
    (of_decide_eq_true (by kernel_rfl)) (by unfold Func.isWrapper; first | (rw [if_pos (by decide +kernel)]; kernel_rfl) | (rw [if_neg (by decide +kernel)]; exact ⟨rfl, rfl⟩))
    (fun os started H enc _ => fieldFiner_lifted os started H enc)
/-- THE STATEMENT -/
theorem fieldFiner_proved : Rows.FieldFinerSaid :=
  fieldFiner_over

end Go.Proofs.Ytjlekmjnkpcnoaa
