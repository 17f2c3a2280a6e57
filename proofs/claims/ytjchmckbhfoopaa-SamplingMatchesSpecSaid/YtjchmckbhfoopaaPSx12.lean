/- Lean functions with the same answers as the Go functions that these laws use, and their contracts: each Go call comes to what its Lean function says. Conditions: those of each contract. Written by wip/xprint.py, this session's driver over the print program. -/
import Derived.Test.YtjchmckbhfoopaaPSx0
import Derived.Test.YtjchmckbhfoopaaPSx1
import Derived.Test.YtjchmckbhfoopaaPSx3
import Derived.Test.YtjchmckbhfoopaaPSx4
import Derived.Test.YtjchmckbhfoopaaPSx6
import Derived.Test.YtjchmckbhfoopaaPSx7
import Derived.Test.YtjchmckbhfoopaaPSx8
import Derived.Test.YtjchmckbhfoopaaPSx11
import Derived.Test.YtjchmckbhfoopaaPSadd
namespace Go.Proofs.Ytjchmckbhfoopaa.PS
open Go.RowKit Go.Proofs.YtjchmckbhfoopaaW.PrintWords Go.Proofs.YtjchmckbhfoopaaW.PrintLast Go.Proofs.YtjchmckbhfoopaaW.PrintMore
attribute [local go_sem] max2_int min2_int max_two min_two max_three min_three max_four min_four   -- for this text's walks alone
set_option linter.unusedVariables false
set_option linter.unusedSimpArgs false
attribute [local go_sem high] fld25_0 fld25_1

attribute [local go_sem high] eqA25
/-! ### lawMatches: function 4 -/
mutual
def lawMatches.j0 : Nat → List (S30) → Int → List (S32) → List (S32) → List (S32) → List (S32) → Bool → Int → Int → Int → Int → Option (Bool)
 | 0, _, _, _, _, _, _, _, _, _, _, _ => none
 | k + 1, x0, x1, x2, x3, x9, x11, x41, x211000, x211001, x217000, x217001 => if x41 = true then (some false) else (if (x0.length : Int) > 10000 then ((linkhouseref7_At.f 2 (-1)).bind fun bt226 => (lawMatches.j1 k x0 x1 x2 x3 x9 x11 x211000 x211001 x217000 x217001 bt226.1 bt226.2)) else ((linkhouseref7_In.f x1 1 5000).bind fun t228 => (if t228 = true then (lawMatches.j1 k x0 x1 x2 x3 x9 x11 x211000 x211001 x217000 x217001 0 0) else ((linkhouseref7_At.f 3 (-2)).bind fun bt229 => (lawMatches.j1 k x0 x1 x2 x3 x9 x11 x211000 x211001 x217000 x217001 bt229.1 bt229.2)))))
def lawMatches.j1 : Nat → List (S30) → Int → List (S32) → List (S32) → List (S32) → List (S32) → Int → Int → Int → Int → Int → Int → Option (Bool)
 | 0, _, _, _, _, _, _, _, _, _, _, _, _ => none
 | k + 1, x0, x1, x2, x3, x9, x11, x211000, x211001, x217000, x217001, x226000, x226001 => lawMatches.l0 k x0 x1 x2 x3 x9 x11 ([] : List (S32)) 0 0 x211000 x211001 x217000 x217001 x226000 x226001
def lawMatches.l0 : Nat → List (S30) → Int → List (S32) → List (S32) → List (S32) → List (S32) → List (S32) → Int → Int → Int → Int → Int → Int → Int → Int → Option (Bool)
 | 0, _, _, _, _, _, _, _, _, _, _, _, _, _, _, _ => none
 | k + 1, x0, x1, x2, x3, x9, x11, x14, x15, x16, x211000, x211001, x217000, x217001, x226000, x226001 => if x16 < (x0.length : Int) then (lawMatches.j3 k x0 x1 x2 x3 x9 x11 x14 x15 x16 (x226000 == 0) x211000 x211001 x217000 x217001 x226000 x226001) else (lawMatches.j3 k x0 x1 x2 x3 x9 x11 x14 x15 x16 false x211000 x211001 x217000 x217001 x226000 x226001)
def lawMatches.j3 : Nat → List (S30) → Int → List (S32) → List (S32) → List (S32) → List (S32) → List (S32) → Int → Int → Bool → Int → Int → Int → Int → Int → Int → Option (Bool)
 | 0, _, _, _, _, _, _, _, _, _, _, _, _, _, _, _, _ => none
 | k + 1, x0, x1, x2, x3, x9, x11, x14, x15, x16, x58, x211000, x211001, x217000, x217001, x226000, x226001 => if x58 = true then (if 0 ≤ x16 then (if x16 < (x0.length : Int) then ((linkhouseref7_In.f ((rd_T30 x0 x16).f1) (-1) 1048575).bind fun t232 => (if t232 = true then (if ((rd_T30 x0 x16).f1) ≥ 0 then (if x1 = 0 then (none) else (if (Int.tmod (wrap64 (x15 + 1)) x1) = 0 then (if x14.length < 8796093022208 then (lawMatches.l0 k x0 x1 x2 x3 x9 x11 (x14 ++ [(⟨(rd_T30 x0 x16).f1, 1⟩ : S32)]) (wrap64 (x15 + 1)) (wrap64 (x16 + 1)) x211000 x211001 x217000 x217001 x226000 x226001) else (none)) else (lawMatches.l0 k x0 x1 x2 x3 x9 x11 x14 (wrap64 (x15 + 1)) (wrap64 (x16 + 1)) x211000 x211001 x217000 x217001 x226000 x226001))) else (lawMatches.l0 k x0 x1 x2 x3 x9 x11 x14 x15 (wrap64 (x16 + 1)) x211000 x211001 x217000 x217001 x226000 x226001)) else ((linkhouseref7_At.f 3 x16).bind fun bt238 => (lawMatches.l0 k x0 x1 x2 x3 x9 x11 x14 x15 (wrap64 (x16 + 1)) x211000 x211001 x217000 x217001 bt238.1 bt238.2)))) else (none)) else (none)) else ((linkhouseref8_Profile.f k x14).bind fun t240 => (if x226000 = 0 then (lawMatches.j4 k x2 x3 x9 x11 t240 (decide ((t240.length : Int) > 200)) x211000 x211001 x217000 x217001 x226000 x226001) else (lawMatches.j4 k x2 x3 x9 x11 t240 false x211000 x211001 x217000 x217001 x226000 x226001)))
def lawMatches.j4 : Nat → List (S32) → List (S32) → List (S32) → List (S32) → List (S32) → Bool → Int → Int → Int → Int → Int → Int → Option (Bool)
 | 0, _, _, _, _, _, _, _, _, _, _, _, _ => none
 | k + 1, x2, x3, x9, x11, x17, x100, x211000, x211001, x217000, x217001, x226000, x226001 => if x100 = true then ((linkhouseref7_At.f 10 (-3)).bind fun bt243 => (lawMatches.j5 k x2 x3 x9 x11 x17 x211000 x211001 x217000 x217001 bt243.1 bt243.2)) else (lawMatches.j5 k x2 x3 x9 x11 x17 x211000 x211001 x217000 x217001 x226000 x226001)
def lawMatches.j5 : Nat → List (S32) → List (S32) → List (S32) → List (S32) → List (S32) → Int → Int → Int → Int → Int → Int → Option (Bool)
 | 0, _, _, _, _, _, _, _, _, _, _, _ => none
 | k + 1, x2, x3, x9, x11, x17, x211000, x211001, x217000, x217001, x226000, x226001 => if (!(x211000 == x226000) || (!(x211001 == x226001))) = true then (lawMatches.j6 k x2 x3 x11 true x217000 x217001) else (if x226000 = 0 then ((linkhouseref8_SameProfile.f k x9 x17).bind fun t245 => (lawMatches.j6 k x2 x3 x11 (!t245) x217000 x217001)) else (if (x9.length : Int) > 0 then (lawMatches.j6 k x2 x3 x11 true x217000 x217001) else (lawMatches.j6 k x2 x3 x11 false x217000 x217001)))
def lawMatches.j6 : Nat → List (S32) → List (S32) → List (S32) → Bool → Int → Int → Option (Bool)
 | 0, _, _, _, _, _, _ => none
 | k + 1, x2, x3, x11, x125, x217000, x217001 => if x125 = true then (some false) else ((linkhouseref8_ProfileFault.f k x2).bind fun bt246 => (if bt246.1 = 0 then ((linkhouseref8_ProfileFault.f k x3).bind fun bt248 => (lawMatches.j7 k x2 x3 x11 (bt248.1 != 0) x217000 x217001 bt246.1 bt246.2)) else (lawMatches.j7 k x2 x3 x11 false x217000 x217001 bt246.1 bt246.2)))
def lawMatches.j7 : Nat → List (S32) → List (S32) → List (S32) → Bool → Int → Int → Int → Int → Option (Bool)
 | 0, _, _, _, _, _, _, _, _ => none
 | k + 1, x2, x3, x11, x136, x217000, x217001, x226000, x226001 => if x136 = true then ((linkhouseref8_ProfileFault.f k x3).bind fun bt250 => ((linkhouseref7_At.f bt250.1 (-2)).bind fun bt252 => (lawMatches.j8 k x2 x3 x11 x217000 x217001 bt252.1 bt252.2))) else (lawMatches.j8 k x2 x3 x11 x217000 x217001 x226000 x226001)
def lawMatches.j8 : Nat → List (S32) → List (S32) → List (S32) → Int → Int → Int → Int → Option (Bool)
 | 0, _, _, _, _, _, _, _ => none
 | k + 1, x2, x3, x11, x217000, x217001, x226000, x226001 => if x226000 = 0 then (if ([] : List (S32)).length + x2.length < 8796093022208 then ((some (([] : List (S32)) ++ x2 : List (S32))).bind fun y255 => (if y255.length + x3.length < 8796093022208 then ((linkhouseref8_Profile.f k (y255 ++ x3)).bind fun t261 => (lawMatches.j9 k x11 t261 x217000 x217001)) else (none))) else (none)) else (if (x217000 == x226000 && (x217001 == x226001)) = true then (if (x11.length : Int) = 0 then ((linkhouselaw8_sampled.f k).bind fun t254 => (some t254)) else (some false)) else (some false))
def lawMatches.j9 : Nat → List (S32) → List (S32) → Int → Int → Option (Bool)
 | 0, _, _, _, _ => none
 | k + 1, x11, x17, x217000, x217001 => (linkhouseref8_ProfileFault.f k x17).bind fun bt264 => (if bt264.1 = 0 then (if x217000 = 0 then ((linkhouseref8_SameProfile.f k x11 x17).bind fun t266 => (if t266 = true then ((linkhouselaw8_sampled.f k).bind fun t267 => (some t267)) else (some false))) else (some false)) else ((linkhouseref7_At.f 10 (-3)).bind fun bt268 => (if (x217000 == bt268.1 && (x217001 == bt268.2)) = true then (if (x11.length : Int) = 0 then ((linkhouselaw8_sampled.f k).bind fun t270 => (some t270)) else (some false)) else (some false))))
end
def lawMatches.f (k : Nat) (l0 : List (S30)) (a1 : Int) (l2 : List (S32)) (l3 : List (S32)) : Option (Bool) := (sampling_Take.f k l0 a1).bind fun bt205 => ((sampling_Merge.f k l2 l3).bind fun bt211 => ((sampling_Validate.f k l2).bind fun bt217 => ((linkhouseref8_ProfileFault.f k l2).bind fun bt219 => (if (!(bt217.1 == bt219.1) || (!(bt217.2 == bt219.2))) = true then (lawMatches.j0 k l0 a1 l2 l3 bt205.1 bt211.1 true bt205.2.1 bt205.2.2 bt211.2.1 bt211.2.2) else ((sampling_Validate.f k l3).bind fun bt221 => ((linkhouseref8_ProfileFault.f k l3).bind fun bt223 => (lawMatches.j0 k l0 a1 l2 l3 bt205.1 bt211.1 (!(bt221.1 == bt223.1) || (!(bt221.2 == bt223.2))) bt205.2.1 bt205.2.2 bt211.2.1 bt211.2.2)))))))
theorem lawMatches.mono_l : ∀ k, (∀ y0 y1 y2 y3 y4 y5 y6 y7 y8 y9 y10, LeO (lawMatches.j0 k y0 y1 y2 y3 y4 y5 y6 y7 y8 y9 y10) (lawMatches.j0 (k + 1) y0 y1 y2 y3 y4 y5 y6 y7 y8 y9 y10)) ∧ (∀ y0 y1 y2 y3 y4 y5 y6 y7 y8 y9 y10 y11, LeO (lawMatches.j1 k y0 y1 y2 y3 y4 y5 y6 y7 y8 y9 y10 y11) (lawMatches.j1 (k + 1) y0 y1 y2 y3 y4 y5 y6 y7 y8 y9 y10 y11)) ∧ (∀ y0 y1 y2 y3 y4 y5 y6 y7 y8 y9 y10 y11 y12 y13 y14, LeO (lawMatches.l0 k y0 y1 y2 y3 y4 y5 y6 y7 y8 y9 y10 y11 y12 y13 y14) (lawMatches.l0 (k + 1) y0 y1 y2 y3 y4 y5 y6 y7 y8 y9 y10 y11 y12 y13 y14)) ∧ (∀ y0 y1 y2 y3 y4 y5 y6 y7 y8 y9 y10 y11 y12 y13 y14 y15, LeO (lawMatches.j3 k y0 y1 y2 y3 y4 y5 y6 y7 y8 y9 y10 y11 y12 y13 y14 y15) (lawMatches.j3 (k + 1) y0 y1 y2 y3 y4 y5 y6 y7 y8 y9 y10 y11 y12 y13 y14 y15)) ∧ (∀ y0 y1 y2 y3 y4 y5 y6 y7 y8 y9 y10 y11, LeO (lawMatches.j4 k y0 y1 y2 y3 y4 y5 y6 y7 y8 y9 y10 y11) (lawMatches.j4 (k + 1) y0 y1 y2 y3 y4 y5 y6 y7 y8 y9 y10 y11)) ∧ (∀ y0 y1 y2 y3 y4 y5 y6 y7 y8 y9 y10, LeO (lawMatches.j5 k y0 y1 y2 y3 y4 y5 y6 y7 y8 y9 y10) (lawMatches.j5 (k + 1) y0 y1 y2 y3 y4 y5 y6 y7 y8 y9 y10)) ∧ (∀ y0 y1 y2 y3 y4 y5, LeO (lawMatches.j6 k y0 y1 y2 y3 y4 y5) (lawMatches.j6 (k + 1) y0 y1 y2 y3 y4 y5)) ∧ (∀ y0 y1 y2 y3 y4 y5 y6 y7, LeO (lawMatches.j7 k y0 y1 y2 y3 y4 y5 y6 y7) (lawMatches.j7 (k + 1) y0 y1 y2 y3 y4 y5 y6 y7)) ∧ (∀ y0 y1 y2 y3 y4 y5 y6, LeO (lawMatches.j8 k y0 y1 y2 y3 y4 y5 y6) (lawMatches.j8 (k + 1) y0 y1 y2 y3 y4 y5 y6)) ∧ (∀ y0 y1 y2 y3, LeO (lawMatches.j9 k y0 y1 y2 y3) (lawMatches.j9 (k + 1) y0 y1 y2 y3))
 | 0 => ⟨fun _ _ _ _ _ _ _ _ _ _ _ r h => by simp [lawMatches.j0] at h, fun _ _ _ _ _ _ _ _ _ _ _ _ r h => by simp [lawMatches.j1] at h, fun _ _ _ _ _ _ _ _ _ _ _ _ _ _ _ r h => by simp [lawMatches.l0] at h, fun _ _ _ _ _ _ _ _ _ _ _ _ _ _ _ _ r h => by simp [lawMatches.j3] at h, fun _ _ _ _ _ _ _ _ _ _ _ _ r h => by simp [lawMatches.j4] at h, fun _ _ _ _ _ _ _ _ _ _ _ r h => by simp [lawMatches.j5] at h, fun _ _ _ _ _ _ r h => by simp [lawMatches.j6] at h, fun _ _ _ _ _ _ _ _ r h => by simp [lawMatches.j7] at h, fun _ _ _ _ _ _ _ r h => by simp [lawMatches.j8] at h, fun _ _ _ _ r h => by simp [lawMatches.j9] at h⟩
 | k + 1 => by
  obtain ⟨ih0, ih1, ih2, ih3, ih4, ih5, ih6, ih7, ih8, ih9⟩ := lawMatches.mono_l k
  refine ⟨?_, ?_, ?_, ?_, ?_, ?_, ?_, ?_, ?_, ?_⟩
  ·intro y0 y1 y2 y3 y4 y5 y6 y7 y8 y9 y10
   unfold lawMatches.j0
   repeat' first
   | (with_reducible exact ih0 _ _ _ _ _ _ _ _ _ _ _)
   | (with_reducible exact ih1 _ _ _ _ _ _ _ _ _ _ _ _)
   | (with_reducible exact ih2 _ _ _ _ _ _ _ _ _ _ _ _ _ _ _)
   | (with_reducible exact ih3 _ _ _ _ _ _ _ _ _ _ _ _ _ _ _ _)
   | (with_reducible exact ih4 _ _ _ _ _ _ _ _ _ _ _ _)
   | (with_reducible exact ih5 _ _ _ _ _ _ _ _ _ _ _)
   | (with_reducible exact ih6 _ _ _ _ _ _)
   | (with_reducible exact ih7 _ _ _ _ _ _ _ _)
   | (with_reducible exact ih8 _ _ _ _ _ _ _)
   | (with_reducible exact ih9 _ _ _ _)
   | (with_reducible exact linkhouselaw8_sampled.mono _)
   | (with_reducible exact linkhouseref8_Profile.mono _ _)
   | (with_reducible exact linkhouseref8_ProfileFault.mono _ _)
   | (with_reducible exact linkhouseref8_SameProfile.mono _ _ _)
   | (with_reducible exact sampling_Merge.mono _ _ _)
   | (with_reducible exact sampling_Take.mono _ _ _)
   | (with_reducible exact sampling_Validate.mono _ _)
   | (with_reducible exact LeO.refl _)
   | (with_reducible exact LeO.none _)
   | (with_reducible refine LeO.ite ?_ ?_)
   | (with_reducible refine LeO.bind ?_ (fun _ => ?_))
   | exact ih0 _ _ _ _ _ _ _ _ _ _ _
   | exact ih1 _ _ _ _ _ _ _ _ _ _ _ _
   | exact ih2 _ _ _ _ _ _ _ _ _ _ _ _ _ _ _
   | exact ih3 _ _ _ _ _ _ _ _ _ _ _ _ _ _ _ _
   | exact ih4 _ _ _ _ _ _ _ _ _ _ _ _
   | exact ih5 _ _ _ _ _ _ _ _ _ _ _
   | exact ih6 _ _ _ _ _ _
   | exact ih7 _ _ _ _ _ _ _ _
   | exact ih8 _ _ _ _ _ _ _
   | exact ih9 _ _ _ _
   | exact linkhouselaw8_sampled.mono _
   | exact linkhouseref8_Profile.mono _ _
   | exact linkhouseref8_ProfileFault.mono _ _
   | exact linkhouseref8_SameProfile.mono _ _ _
   | exact sampling_Merge.mono _ _ _
   | exact sampling_Take.mono _ _ _
   | exact sampling_Validate.mono _ _
   | exact LeO.none _
   | refine LeO.ite ?_ ?_
   | refine LeO.bind ?_ (fun _ => ?_)
  ·intro y0 y1 y2 y3 y4 y5 y6 y7 y8 y9 y10 y11
   unfold lawMatches.j1
   repeat' first
   | (with_reducible exact ih0 _ _ _ _ _ _ _ _ _ _ _)
   | (with_reducible exact ih1 _ _ _ _ _ _ _ _ _ _ _ _)
   | (with_reducible exact ih2 _ _ _ _ _ _ _ _ _ _ _ _ _ _ _)
   | (with_reducible exact ih3 _ _ _ _ _ _ _ _ _ _ _ _ _ _ _ _)
   | (with_reducible exact ih4 _ _ _ _ _ _ _ _ _ _ _ _)
   | (with_reducible exact ih5 _ _ _ _ _ _ _ _ _ _ _)
   | (with_reducible exact ih6 _ _ _ _ _ _)
   | (with_reducible exact ih7 _ _ _ _ _ _ _ _)
   | (with_reducible exact ih8 _ _ _ _ _ _ _)
   | (with_reducible exact ih9 _ _ _ _)
   | (with_reducible exact linkhouselaw8_sampled.mono _)
   | (with_reducible exact linkhouseref8_Profile.mono _ _)
   | (with_reducible exact linkhouseref8_ProfileFault.mono _ _)
   | (with_reducible exact linkhouseref8_SameProfile.mono _ _ _)
   | (with_reducible exact sampling_Merge.mono _ _ _)
   | (with_reducible exact sampling_Take.mono _ _ _)
   | (with_reducible exact sampling_Validate.mono _ _)
   | (with_reducible exact LeO.refl _)
   | (with_reducible exact LeO.none _)
   | (with_reducible refine LeO.ite ?_ ?_)
   | (with_reducible refine LeO.bind ?_ (fun _ => ?_))
   | exact ih0 _ _ _ _ _ _ _ _ _ _ _
   | exact ih1 _ _ _ _ _ _ _ _ _ _ _ _
   | exact ih2 _ _ _ _ _ _ _ _ _ _ _ _ _ _ _
   | exact ih3 _ _ _ _ _ _ _ _ _ _ _ _ _ _ _ _
   | exact ih4 _ _ _ _ _ _ _ _ _ _ _ _
   | exact ih5 _ _ _ _ _ _ _ _ _ _ _
   | exact ih6 _ _ _ _ _ _
   | exact ih7 _ _ _ _ _ _ _ _
   | exact ih8 _ _ _ _ _ _ _
   | exact ih9 _ _ _ _
   | exact linkhouselaw8_sampled.mono _
   | exact linkhouseref8_Profile.mono _ _
   | exact linkhouseref8_ProfileFault.mono _ _
   | exact linkhouseref8_SameProfile.mono _ _ _
   | exact sampling_Merge.mono _ _ _
   | exact sampling_Take.mono _ _ _
   | exact sampling_Validate.mono _ _
   | exact LeO.none _
   | refine LeO.ite ?_ ?_
   | refine LeO.bind ?_ (fun _ => ?_)
  ·intro y0 y1 y2 y3 y4 y5 y6 y7 y8 y9 y10 y11 y12 y13 y14
   unfold lawMatches.l0
   repeat' first
   | (with_reducible exact ih0 _ _ _ _ _ _ _ _ _ _ _)
   | (with_reducible exact ih1 _ _ _ _ _ _ _ _ _ _ _ _)
   | (with_reducible exact ih2 _ _ _ _ _ _ _ _ _ _ _ _ _ _ _)
   | (with_reducible exact ih3 _ _ _ _ _ _ _ _ _ _ _ _ _ _ _ _)
   | (with_reducible exact ih4 _ _ _ _ _ _ _ _ _ _ _ _)
   | (with_reducible exact ih5 _ _ _ _ _ _ _ _ _ _ _)
   | (with_reducible exact ih6 _ _ _ _ _ _)
   | (with_reducible exact ih7 _ _ _ _ _ _ _ _)
   | (with_reducible exact ih8 _ _ _ _ _ _ _)
   | (with_reducible exact ih9 _ _ _ _)
   | (with_reducible exact linkhouselaw8_sampled.mono _)
   | (with_reducible exact linkhouseref8_Profile.mono _ _)
   | (with_reducible exact linkhouseref8_ProfileFault.mono _ _)
   | (with_reducible exact linkhouseref8_SameProfile.mono _ _ _)
   | (with_reducible exact sampling_Merge.mono _ _ _)
   | (with_reducible exact sampling_Take.mono _ _ _)
   | (with_reducible exact sampling_Validate.mono _ _)
   | (with_reducible exact LeO.refl _)
   | (with_reducible exact LeO.none _)
   | (with_reducible refine LeO.ite ?_ ?_)
   | (with_reducible refine LeO.bind ?_ (fun _ => ?_))
   | exact ih0 _ _ _ _ _ _ _ _ _ _ _
   | exact ih1 _ _ _ _ _ _ _ _ _ _ _ _
   | exact ih2 _ _ _ _ _ _ _ _ _ _ _ _ _ _ _
   | exact ih3 _ _ _ _ _ _ _ _ _ _ _ _ _ _ _ _
   | exact ih4 _ _ _ _ _ _ _ _ _ _ _ _
   | exact ih5 _ _ _ _ _ _ _ _ _ _ _
   | exact ih6 _ _ _ _ _ _
   | exact ih7 _ _ _ _ _ _ _ _
   | exact ih8 _ _ _ _ _ _ _
   | exact ih9 _ _ _ _
   | exact linkhouselaw8_sampled.mono _
   | exact linkhouseref8_Profile.mono _ _
   | exact linkhouseref8_ProfileFault.mono _ _
   | exact linkhouseref8_SameProfile.mono _ _ _
   | exact sampling_Merge.mono _ _ _
   | exact sampling_Take.mono _ _ _
   | exact sampling_Validate.mono _ _
   | exact LeO.none _
   | refine LeO.ite ?_ ?_
   | refine LeO.bind ?_ (fun _ => ?_)
  ·intro y0 y1 y2 y3 y4 y5 y6 y7 y8 y9 y10 y11 y12 y13 y14 y15
   unfold lawMatches.j3
   repeat' first
   | (with_reducible exact ih0 _ _ _ _ _ _ _ _ _ _ _)
   | (with_reducible exact ih1 _ _ _ _ _ _ _ _ _ _ _ _)
   | (with_reducible exact ih2 _ _ _ _ _ _ _ _ _ _ _ _ _ _ _)
   | (with_reducible exact ih3 _ _ _ _ _ _ _ _ _ _ _ _ _ _ _ _)
   | (with_reducible exact ih4 _ _ _ _ _ _ _ _ _ _ _ _)
   | (with_reducible exact ih5 _ _ _ _ _ _ _ _ _ _ _)
   | (with_reducible exact ih6 _ _ _ _ _ _)
   | (with_reducible exact ih7 _ _ _ _ _ _ _ _)
   | (with_reducible exact ih8 _ _ _ _ _ _ _)
   | (with_reducible exact ih9 _ _ _ _)
   | (with_reducible exact linkhouselaw8_sampled.mono _)
   | (with_reducible exact linkhouseref8_Profile.mono _ _)
   | (with_reducible exact linkhouseref8_ProfileFault.mono _ _)
   | (with_reducible exact linkhouseref8_SameProfile.mono _ _ _)
   | (with_reducible exact sampling_Merge.mono _ _ _)
   | (with_reducible exact sampling_Take.mono _ _ _)
   | (with_reducible exact sampling_Validate.mono _ _)
   | (with_reducible exact LeO.refl _)
   | (with_reducible exact LeO.none _)
   | (with_reducible refine LeO.ite ?_ ?_)
   | (with_reducible refine LeO.bind ?_ (fun _ => ?_))
   | exact ih0 _ _ _ _ _ _ _ _ _ _ _
   | exact ih1 _ _ _ _ _ _ _ _ _ _ _ _
   | exact ih2 _ _ _ _ _ _ _ _ _ _ _ _ _ _ _
   | exact ih3 _ _ _ _ _ _ _ _ _ _ _ _ _ _ _ _
   | exact ih4 _ _ _ _ _ _ _ _ _ _ _ _
   | exact ih5 _ _ _ _ _ _ _ _ _ _ _
   | exact ih6 _ _ _ _ _ _
   | exact ih7 _ _ _ _ _ _ _ _
   | exact ih8 _ _ _ _ _ _ _
   | exact ih9 _ _ _ _
   | exact linkhouselaw8_sampled.mono _
   | exact linkhouseref8_Profile.mono _ _
   | exact linkhouseref8_ProfileFault.mono _ _
   | exact linkhouseref8_SameProfile.mono _ _ _
   | exact sampling_Merge.mono _ _ _
   | exact sampling_Take.mono _ _ _
   | exact sampling_Validate.mono _ _
   | exact LeO.none _
   | refine LeO.ite ?_ ?_
   | refine LeO.bind ?_ (fun _ => ?_)
  ·intro y0 y1 y2 y3 y4 y5 y6 y7 y8 y9 y10 y11
   unfold lawMatches.j4
   repeat' first
   | (with_reducible exact ih0 _ _ _ _ _ _ _ _ _ _ _)
   | (with_reducible exact ih1 _ _ _ _ _ _ _ _ _ _ _ _)
   | (with_reducible exact ih2 _ _ _ _ _ _ _ _ _ _ _ _ _ _ _)
   | (with_reducible exact ih3 _ _ _ _ _ _ _ _ _ _ _ _ _ _ _ _)
   | (with_reducible exact ih4 _ _ _ _ _ _ _ _ _ _ _ _)
   | (with_reducible exact ih5 _ _ _ _ _ _ _ _ _ _ _)
   | (with_reducible exact ih6 _ _ _ _ _ _)
   | (with_reducible exact ih7 _ _ _ _ _ _ _ _)
   | (with_reducible exact ih8 _ _ _ _ _ _ _)
   | (with_reducible exact ih9 _ _ _ _)
   | (with_reducible exact linkhouselaw8_sampled.mono _)
   | (with_reducible exact linkhouseref8_Profile.mono _ _)
   | (with_reducible exact linkhouseref8_ProfileFault.mono _ _)
   | (with_reducible exact linkhouseref8_SameProfile.mono _ _ _)
   | (with_reducible exact sampling_Merge.mono _ _ _)
   | (with_reducible exact sampling_Take.mono _ _ _)
   | (with_reducible exact sampling_Validate.mono _ _)
   | (with_reducible exact LeO.refl _)
   | (with_reducible exact LeO.none _)
   | (with_reducible refine LeO.ite ?_ ?_)
   | (with_reducible refine LeO.bind ?_ (fun _ => ?_))
   | exact ih0 _ _ _ _ _ _ _ _ _ _ _
   | exact ih1 _ _ _ _ _ _ _ _ _ _ _ _
   | exact ih2 _ _ _ _ _ _ _ _ _ _ _ _ _ _ _
   | exact ih3 _ _ _ _ _ _ _ _ _ _ _ _ _ _ _ _
   | exact ih4 _ _ _ _ _ _ _ _ _ _ _ _
   | exact ih5 _ _ _ _ _ _ _ _ _ _ _
   | exact ih6 _ _ _ _ _ _
   | exact ih7 _ _ _ _ _ _ _ _
   | exact ih8 _ _ _ _ _ _ _
   | exact ih9 _ _ _ _
   | exact linkhouselaw8_sampled.mono _
   | exact linkhouseref8_Profile.mono _ _
   | exact linkhouseref8_ProfileFault.mono _ _
   | exact linkhouseref8_SameProfile.mono _ _ _
   | exact sampling_Merge.mono _ _ _
   | exact sampling_Take.mono _ _ _
   | exact sampling_Validate.mono _ _
   | exact LeO.none _
   | refine LeO.ite ?_ ?_
   | refine LeO.bind ?_ (fun _ => ?_)
  ·intro y0 y1 y2 y3 y4 y5 y6 y7 y8 y9 y10
   unfold lawMatches.j5
   repeat' first
   | (with_reducible exact ih0 _ _ _ _ _ _ _ _ _ _ _)
   | (with_reducible exact ih1 _ _ _ _ _ _ _ _ _ _ _ _)
   | (with_reducible exact ih2 _ _ _ _ _ _ _ _ _ _ _ _ _ _ _)
   | (with_reducible exact ih3 _ _ _ _ _ _ _ _ _ _ _ _ _ _ _ _)
   | (with_reducible exact ih4 _ _ _ _ _ _ _ _ _ _ _ _)
   | (with_reducible exact ih5 _ _ _ _ _ _ _ _ _ _ _)
   | (with_reducible exact ih6 _ _ _ _ _ _)
   | (with_reducible exact ih7 _ _ _ _ _ _ _ _)
   | (with_reducible exact ih8 _ _ _ _ _ _ _)
   | (with_reducible exact ih9 _ _ _ _)
   | (with_reducible exact linkhouselaw8_sampled.mono _)
   | (with_reducible exact linkhouseref8_Profile.mono _ _)
   | (with_reducible exact linkhouseref8_ProfileFault.mono _ _)
   | (with_reducible exact linkhouseref8_SameProfile.mono _ _ _)
   | (with_reducible exact sampling_Merge.mono _ _ _)
   | (with_reducible exact sampling_Take.mono _ _ _)
   | (with_reducible exact sampling_Validate.mono _ _)
   | (with_reducible exact LeO.refl _)
   | (with_reducible exact LeO.none _)
   | (with_reducible refine LeO.ite ?_ ?_)
   | (with_reducible refine LeO.bind ?_ (fun _ => ?_))
   | exact ih0 _ _ _ _ _ _ _ _ _ _ _
   | exact ih1 _ _ _ _ _ _ _ _ _ _ _ _
   | exact ih2 _ _ _ _ _ _ _ _ _ _ _ _ _ _ _
   | exact ih3 _ _ _ _ _ _ _ _ _ _ _ _ _ _ _ _
   | exact ih4 _ _ _ _ _ _ _ _ _ _ _ _
   | exact ih5 _ _ _ _ _ _ _ _ _ _ _
   | exact ih6 _ _ _ _ _ _
   | exact ih7 _ _ _ _ _ _ _ _
   | exact ih8 _ _ _ _ _ _ _
   | exact ih9 _ _ _ _
   | exact linkhouselaw8_sampled.mono _
   | exact linkhouseref8_Profile.mono _ _
   | exact linkhouseref8_ProfileFault.mono _ _
   | exact linkhouseref8_SameProfile.mono _ _ _
   | exact sampling_Merge.mono _ _ _
   | exact sampling_Take.mono _ _ _
   | exact sampling_Validate.mono _ _
   | exact LeO.none _
   | refine LeO.ite ?_ ?_
   | refine LeO.bind ?_ (fun _ => ?_)
  ·intro y0 y1 y2 y3 y4 y5
   unfold lawMatches.j6
   repeat' first
   | (with_reducible exact ih0 _ _ _ _ _ _ _ _ _ _ _)
   | (with_reducible exact ih1 _ _ _ _ _ _ _ _ _ _ _ _)
   | (with_reducible exact ih2 _ _ _ _ _ _ _ _ _ _ _ _ _ _ _)
   | (with_reducible exact ih3 _ _ _ _ _ _ _ _ _ _ _ _ _ _ _ _)
   | (with_reducible exact ih4 _ _ _ _ _ _ _ _ _ _ _ _)
   | (with_reducible exact ih5 _ _ _ _ _ _ _ _ _ _ _)
   | (with_reducible exact ih6 _ _ _ _ _ _)
   | (with_reducible exact ih7 _ _ _ _ _ _ _ _)
   | (with_reducible exact ih8 _ _ _ _ _ _ _)
   | (with_reducible exact ih9 _ _ _ _)
   | (with_reducible exact linkhouselaw8_sampled.mono _)
   | (with_reducible exact linkhouseref8_Profile.mono _ _)
   | (with_reducible exact linkhouseref8_ProfileFault.mono _ _)
   | (with_reducible exact linkhouseref8_SameProfile.mono _ _ _)
   | (with_reducible exact sampling_Merge.mono _ _ _)
   | (with_reducible exact sampling_Take.mono _ _ _)
   | (with_reducible exact sampling_Validate.mono _ _)
   | (with_reducible exact LeO.refl _)
   | (with_reducible exact LeO.none _)
   | (with_reducible refine LeO.ite ?_ ?_)
   | (with_reducible refine LeO.bind ?_ (fun _ => ?_))
   | exact ih0 _ _ _ _ _ _ _ _ _ _ _
   | exact ih1 _ _ _ _ _ _ _ _ _ _ _ _
   | exact ih2 _ _ _ _ _ _ _ _ _ _ _ _ _ _ _
   | exact ih3 _ _ _ _ _ _ _ _ _ _ _ _ _ _ _ _
   | exact ih4 _ _ _ _ _ _ _ _ _ _ _ _
   | exact ih5 _ _ _ _ _ _ _ _ _ _ _
   | exact ih6 _ _ _ _ _ _
   | exact ih7 _ _ _ _ _ _ _ _
   | exact ih8 _ _ _ _ _ _ _
   | exact ih9 _ _ _ _
   | exact linkhouselaw8_sampled.mono _
   | exact linkhouseref8_Profile.mono _ _
   | exact linkhouseref8_ProfileFault.mono _ _
   | exact linkhouseref8_SameProfile.mono _ _ _
   | exact sampling_Merge.mono _ _ _
   | exact sampling_Take.mono _ _ _
   | exact sampling_Validate.mono _ _
   | exact LeO.none _
   | refine LeO.ite ?_ ?_
   | refine LeO.bind ?_ (fun _ => ?_)
  ·intro y0 y1 y2 y3 y4 y5 y6 y7
   unfold lawMatches.j7
   repeat' first
   | (with_reducible exact ih0 _ _ _ _ _ _ _ _ _ _ _)
   | (with_reducible exact ih1 _ _ _ _ _ _ _ _ _ _ _ _)
   | (with_reducible exact ih2 _ _ _ _ _ _ _ _ _ _ _ _ _ _ _)
   | (with_reducible exact ih3 _ _ _ _ _ _ _ _ _ _ _ _ _ _ _ _)
   | (with_reducible exact ih4 _ _ _ _ _ _ _ _ _ _ _ _)
   | (with_reducible exact ih5 _ _ _ _ _ _ _ _ _ _ _)
   | (with_reducible exact ih6 _ _ _ _ _ _)
   | (with_reducible exact ih7 _ _ _ _ _ _ _ _)
   | (with_reducible exact ih8 _ _ _ _ _ _ _)
   | (with_reducible exact ih9 _ _ _ _)
   | (with_reducible exact linkhouselaw8_sampled.mono _)
   | (with_reducible exact linkhouseref8_Profile.mono _ _)
   | (with_reducible exact linkhouseref8_ProfileFault.mono _ _)
   | (with_reducible exact linkhouseref8_SameProfile.mono _ _ _)
   | (with_reducible exact sampling_Merge.mono _ _ _)
   | (with_reducible exact sampling_Take.mono _ _ _)
   | (with_reducible exact sampling_Validate.mono _ _)
   | (with_reducible exact LeO.refl _)
   | (with_reducible exact LeO.none _)
   | (with_reducible refine LeO.ite ?_ ?_)
   | (with_reducible refine LeO.bind ?_ (fun _ => ?_))
   | exact ih0 _ _ _ _ _ _ _ _ _ _ _
   | exact ih1 _ _ _ _ _ _ _ _ _ _ _ _
   | exact ih2 _ _ _ _ _ _ _ _ _ _ _ _ _ _ _
   | exact ih3 _ _ _ _ _ _ _ _ _ _ _ _ _ _ _ _
   | exact ih4 _ _ _ _ _ _ _ _ _ _ _ _
   | exact ih5 _ _ _ _ _ _ _ _ _ _ _
   | exact ih6 _ _ _ _ _ _
   | exact ih7 _ _ _ _ _ _ _ _
   | exact ih8 _ _ _ _ _ _ _
   | exact ih9 _ _ _ _
   | exact linkhouselaw8_sampled.mono _
   | exact linkhouseref8_Profile.mono _ _
   | exact linkhouseref8_ProfileFault.mono _ _
   | exact linkhouseref8_SameProfile.mono _ _ _
   | exact sampling_Merge.mono _ _ _
   | exact sampling_Take.mono _ _ _
   | exact sampling_Validate.mono _ _
   | exact LeO.none _
   | refine LeO.ite ?_ ?_
   | refine LeO.bind ?_ (fun _ => ?_)
  ·intro y0 y1 y2 y3 y4 y5 y6
   unfold lawMatches.j8
   repeat' first
   | (with_reducible exact ih0 _ _ _ _ _ _ _ _ _ _ _)
   | (with_reducible exact ih1 _ _ _ _ _ _ _ _ _ _ _ _)
   | (with_reducible exact ih2 _ _ _ _ _ _ _ _ _ _ _ _ _ _ _)
   | (with_reducible exact ih3 _ _ _ _ _ _ _ _ _ _ _ _ _ _ _ _)
   | (with_reducible exact ih4 _ _ _ _ _ _ _ _ _ _ _ _)
   | (with_reducible exact ih5 _ _ _ _ _ _ _ _ _ _ _)
   | (with_reducible exact ih6 _ _ _ _ _ _)
   | (with_reducible exact ih7 _ _ _ _ _ _ _ _)
   | (with_reducible exact ih8 _ _ _ _ _ _ _)
   | (with_reducible exact ih9 _ _ _ _)
   | (with_reducible exact linkhouselaw8_sampled.mono _)
   | (with_reducible exact linkhouseref8_Profile.mono _ _)
   | (with_reducible exact linkhouseref8_ProfileFault.mono _ _)
   | (with_reducible exact linkhouseref8_SameProfile.mono _ _ _)
   | (with_reducible exact sampling_Merge.mono _ _ _)
   | (with_reducible exact sampling_Take.mono _ _ _)
   | (with_reducible exact sampling_Validate.mono _ _)
   | (with_reducible exact LeO.refl _)
   | (with_reducible exact LeO.none _)
   | (with_reducible refine LeO.ite ?_ ?_)
   | (with_reducible refine LeO.bind ?_ (fun _ => ?_))
   | exact ih0 _ _ _ _ _ _ _ _ _ _ _
   | exact ih1 _ _ _ _ _ _ _ _ _ _ _ _
   | exact ih2 _ _ _ _ _ _ _ _ _ _ _ _ _ _ _
   | exact ih3 _ _ _ _ _ _ _ _ _ _ _ _ _ _ _ _
   | exact ih4 _ _ _ _ _ _ _ _ _ _ _ _
   | exact ih5 _ _ _ _ _ _ _ _ _ _ _
   | exact ih6 _ _ _ _ _ _
   | exact ih7 _ _ _ _ _ _ _ _
   | exact ih8 _ _ _ _ _ _ _
   | exact ih9 _ _ _ _
   | exact linkhouselaw8_sampled.mono _
   | exact linkhouseref8_Profile.mono _ _
   | exact linkhouseref8_ProfileFault.mono _ _
   | exact linkhouseref8_SameProfile.mono _ _ _
   | exact sampling_Merge.mono _ _ _
   | exact sampling_Take.mono _ _ _
   | exact sampling_Validate.mono _ _
   | exact LeO.none _
   | refine LeO.ite ?_ ?_
   | refine LeO.bind ?_ (fun _ => ?_)
  ·intro y0 y1 y2 y3
   unfold lawMatches.j9
   repeat' first
   | (with_reducible exact ih0 _ _ _ _ _ _ _ _ _ _ _)
   | (with_reducible exact ih1 _ _ _ _ _ _ _ _ _ _ _ _)
   | (with_reducible exact ih2 _ _ _ _ _ _ _ _ _ _ _ _ _ _ _)
   | (with_reducible exact ih3 _ _ _ _ _ _ _ _ _ _ _ _ _ _ _ _)
   | (with_reducible exact ih4 _ _ _ _ _ _ _ _ _ _ _ _)
   | (with_reducible exact ih5 _ _ _ _ _ _ _ _ _ _ _)
   | (with_reducible exact ih6 _ _ _ _ _ _)
   | (with_reducible exact ih7 _ _ _ _ _ _ _ _)
   | (with_reducible exact ih8 _ _ _ _ _ _ _)
   | (with_reducible exact ih9 _ _ _ _)
   | (with_reducible exact linkhouselaw8_sampled.mono _)
   | (with_reducible exact linkhouseref8_Profile.mono _ _)
   | (with_reducible exact linkhouseref8_ProfileFault.mono _ _)
   | (with_reducible exact linkhouseref8_SameProfile.mono _ _ _)
   | (with_reducible exact sampling_Merge.mono _ _ _)
   | (with_reducible exact sampling_Take.mono _ _ _)
   | (with_reducible exact sampling_Validate.mono _ _)
   | (with_reducible exact LeO.refl _)
   | (with_reducible exact LeO.none _)
   | (with_reducible refine LeO.ite ?_ ?_)
   | (with_reducible refine LeO.bind ?_ (fun _ => ?_))
   | exact ih0 _ _ _ _ _ _ _ _ _ _ _
   | exact ih1 _ _ _ _ _ _ _ _ _ _ _ _
   | exact ih2 _ _ _ _ _ _ _ _ _ _ _ _ _ _ _
   | exact ih3 _ _ _ _ _ _ _ _ _ _ _ _ _ _ _ _
   | exact ih4 _ _ _ _ _ _ _ _ _ _ _ _
   | exact ih5 _ _ _ _ _ _ _ _ _ _ _
   | exact ih6 _ _ _ _ _ _
   | exact ih7 _ _ _ _ _ _ _ _
   | exact ih8 _ _ _ _ _ _ _
   | exact ih9 _ _ _ _
   | exact linkhouselaw8_sampled.mono _
   | exact linkhouseref8_Profile.mono _ _
   | exact linkhouseref8_ProfileFault.mono _ _
   | exact linkhouseref8_SameProfile.mono _ _ _
   | exact sampling_Merge.mono _ _ _
   | exact sampling_Take.mono _ _ _
   | exact sampling_Validate.mono _ _
   | exact LeO.none _
   | refine LeO.ite ?_ ?_
   | refine LeO.bind ?_ (fun _ => ?_)
theorem lawMatches.mono : ∀ a0 a1 a2 a3 k, LeO (lawMatches.f k a0 a1 a2 a3) (lawMatches.f (k + 1) a0 a1 a2 a3) := by
 intro a0 a1 a2 a3 k
 obtain ⟨ih0, ih1, ih2, ih3, ih4, ih5, ih6, ih7, ih8, ih9⟩ := lawMatches.mono_l k
 unfold lawMatches.f
 repeat' first
   | (with_reducible exact ih0 _ _ _ _ _ _ _ _ _ _ _)
   | (with_reducible exact ih1 _ _ _ _ _ _ _ _ _ _ _ _)
   | (with_reducible exact ih2 _ _ _ _ _ _ _ _ _ _ _ _ _ _ _)
   | (with_reducible exact ih3 _ _ _ _ _ _ _ _ _ _ _ _ _ _ _ _)
   | (with_reducible exact ih4 _ _ _ _ _ _ _ _ _ _ _ _)
   | (with_reducible exact ih5 _ _ _ _ _ _ _ _ _ _ _)
   | (with_reducible exact ih6 _ _ _ _ _ _)
   | (with_reducible exact ih7 _ _ _ _ _ _ _ _)
   | (with_reducible exact ih8 _ _ _ _ _ _ _)
   | (with_reducible exact ih9 _ _ _ _)
   | (with_reducible exact linkhouselaw8_sampled.mono _)
   | (with_reducible exact linkhouseref8_Profile.mono _ _)
   | (with_reducible exact linkhouseref8_ProfileFault.mono _ _)
   | (with_reducible exact linkhouseref8_SameProfile.mono _ _ _)
   | (with_reducible exact sampling_Merge.mono _ _ _)
   | (with_reducible exact sampling_Take.mono _ _ _)
   | (with_reducible exact sampling_Validate.mono _ _)
   | (with_reducible exact LeO.refl _)
   | (with_reducible exact LeO.none _)
   | (with_reducible refine LeO.ite ?_ ?_)
   | (with_reducible refine LeO.bind ?_ (fun _ => ?_))
   | exact ih0 _ _ _ _ _ _ _ _ _ _ _
   | exact ih1 _ _ _ _ _ _ _ _ _ _ _ _
   | exact ih2 _ _ _ _ _ _ _ _ _ _ _ _ _ _ _
   | exact ih3 _ _ _ _ _ _ _ _ _ _ _ _ _ _ _ _
   | exact ih4 _ _ _ _ _ _ _ _ _ _ _ _
   | exact ih5 _ _ _ _ _ _ _ _ _ _ _
   | exact ih6 _ _ _ _ _ _
   | exact ih7 _ _ _ _ _ _ _ _
   | exact ih8 _ _ _ _ _ _ _
   | exact ih9 _ _ _ _
   | exact linkhouselaw8_sampled.mono _
   | exact linkhouseref8_Profile.mono _ _
   | exact linkhouseref8_ProfileFault.mono _ _
   | exact linkhouseref8_SameProfile.mono _ _ _
   | exact sampling_Merge.mono _ _ _
   | exact sampling_Take.mono _ _ _
   | exact sampling_Validate.mono _ _
   | exact LeO.none _
   | refine LeO.ite ?_ ?_
   | refine LeO.bind ?_ (fun _ => ?_)
def lawMatches.T33 : Bool × List (List Nat × List Nat) := (true, [([], []), ([], []), ([0, 1], [0, 1]), ([2, 1], [2]), ([3], [3]), ([4, 3], [3, 4]), ([5, 3], [3, 5]), ([3, 6], [3, 6]), ([7, 3], [7]), ([8, 8], [8]), ([8, 9], [8, 9]), ([10, 9, 0, 1, 2, 3, 4, 5, 6, 7, 8, 9, 10], [10])])
def lawMatches.B33 : List Nat := [0, 0, 3, 7, 15, 31, 63, 127, 255, 511, 1023, 2047]
theorem lawMatches.tab33 : rtab .any (opsOf Try.f4 33) = lawMatches.T33 := by kernel_rfl
theorem lawMatches.bits33 : waitsOk lawMatches.T33.2 lawMatches.B33 = true := by kernel_rfl
set_option maxHeartbeats 8000000 in
set_option maxRecDepth 100000 in
theorem lawMatches.calls (k : Nat) (A0 : Option Addr) (c0 : Nat) (l0 : List (S30)) (a1 : Int) (A2 : Option Addr) (c2 : Nat) (l2 : List (S32)) (A3 : Option Addr) (c3 : Nat) (l3 : List (S32)) (r : Bool) (w : World) (hr0 : Kd.C k30 w A0 l0.length l0) (hc0 : l0.length ≤ c0) (hr2 : Kd.C k32 w A2 l2.length l2) (hc2 : l2.length ≤ c2) (hr3 : Kd.C k32 w A3 l3.length l3) (hc3 : l3.length ≤ c3) (h : lawMatches.f k l0 a1 l2 l3 = some r) :
  Calls Try.prog 4 #[.slice A0 l0.length c0, .int .i64 a1, .slice A2 l2.length c2, .slice A3 l3.length c3] w fun e w' => e = .returned (.bool r) ∧ Below w.heap.size w w' := by
 have hu25 := Try.underlying25
 have hu32 := Try.underlying32
 have HR0 := Aside0.mk hr0
 have HC0 := Aside0.mk hc0
 clear hr0 hc0
 have HR2 := Aside0.mk hr2
 have HC2 := Aside0.mk hc2
 clear hr2 hc2
 have HR3 := Aside0.mk hr3
 have HC3 := Aside0.mk hc3
 clear hr3 hc3
 have HB := Aside0.mk (Below.refl w.heap.size w)
 have H : ((sampling_Take.f k l0 a1).bind fun bt205 => ((sampling_Merge.f k l2 l3).bind fun bt211 => ((sampling_Validate.f k l2).bind fun bt217 => ((linkhouseref8_ProfileFault.f k l2).bind fun bt219 => (if (!(bt217.1 == bt219.1) || (!(bt217.2 == bt219.2))) = true then (lawMatches.j0 k l0 a1 l2 l3 bt205.1 bt211.1 true bt205.2.1 bt205.2.2 bt211.2.1 bt211.2.2) else ((sampling_Validate.f k l3).bind fun bt221 => ((linkhouseref8_ProfileFault.f k l3).bind fun bt223 => (lawMatches.j0 k l0 a1 l2 l3 bt205.1 bt211.1 (!(bt221.1 == bt223.1) || (!(bt221.2 == bt223.2))) bt205.2.1 bt205.2.2 bt211.2.1 bt211.2.2)))))))) = some r := h
 clear h
 replace H := Option.bind_eq_some_iff.mp H
 obtain ⟨⟨t205, t208, t209⟩, A50, H⟩ := H
 replace H : ((sampling_Merge.f k l2 l3).bind fun bt211 => ((sampling_Validate.f k l2).bind fun bt217 => ((linkhouseref8_ProfileFault.f k l2).bind fun bt219 => (if (!(bt217.1 == bt219.1) || (!(bt217.2 == bt219.2))) = true then (lawMatches.j0 k l0 a1 l2 l3 t205 bt211.1 true t208 t209 bt211.2.1 bt211.2.2) else ((sampling_Validate.f k l3).bind fun bt221 => ((linkhouseref8_ProfileFault.f k l3).bind fun bt223 => (lawMatches.j0 k l0 a1 l2 l3 t205 bt211.1 (!(bt221.1 == bt223.1) || (!(bt221.2 == bt223.2))) t208 t209 bt211.2.1 bt211.2.2))))))) = some r := H
 have A5 := Aside0.mk A50
 clear A50
 replace H := Option.bind_eq_some_iff.mp H
 obtain ⟨⟨t211, t214, t215⟩, A60, H⟩ := H
 replace H : ((sampling_Validate.f k l2).bind fun bt217 => ((linkhouseref8_ProfileFault.f k l2).bind fun bt219 => (if (!(bt217.1 == bt219.1) || (!(bt217.2 == bt219.2))) = true then (lawMatches.j0 k l0 a1 l2 l3 t205 t211 true t208 t209 t214 t215) else ((sampling_Validate.f k l3).bind fun bt221 => ((linkhouseref8_ProfileFault.f k l3).bind fun bt223 => (lawMatches.j0 k l0 a1 l2 l3 t205 t211 (!(bt221.1 == bt223.1) || (!(bt221.2 == bt223.2))) t208 t209 t214 t215)))))) = some r := H
 have A6 := Aside0.mk A60
 clear A60
 have HC7 := Aside0.mk H
 clear H
 go_enter Try.func4, Try.ntmps4
 go_upto_region 3 with (first | ((with_reducible refine gate_callee (f := 8) rfl ?_); refine goesL_ (some 21) rfl rfl Try.func8 (by kernel_rfl) rfl #[.slice A0 l0.length c0, .int .i64 a1] rfl (by (try simp only [List.map_toArray, List.map_cons, List.map_nil]); first | done | rfl | (simp only [List.length_drop, List.length_take]; rfl)) ?_; (with_reducible refine (sampling_Take.calls k _ _ l0 a1 t205 t208 t209 _ ?side1 ?side2 A5.out).mono ?_); (case side1 => repeat (first | exact HR0.out | (with_reducible refine Kd.C_alloc ?_ _) | (with_reducible refine Kd.C_drewN ?_ _) | (with_reducible refine Kd.C_drew ?_))); (case side2 => exact HC0.out); rintro e w8 ⟨v206, rfl, ho0, hb⟩; refine ⟨_, rfl, ?_⟩; have n0_ := Aside0.mk (Kd.R_lower ho0 (below_size (by repeat (first | (with_reducible first | exact HB.out | apply below_alloc | apply pw_below_drewN | apply below_drew1) | exact HB.out)))); have n1_ := Aside0.mk (below_step (by repeat (first | (with_reducible first | exact HB.out | apply below_alloc | apply pw_below_drewN | apply below_drew1) | exact HB.out)) hb); clear HB; have HO207 := n0_; have HB := n1_; clear n0_ n1_; (try clear hb); (try clear hb2); (try clear hk); (try clear hi); (try clear ho0)) | ((with_reducible refine gate_dst (N := 10) rfl ?_); (try (refine gate_guard (by rfl) ?_; dsimp only)); refine box_event ?hg (N := 10) ?hd (cs := #[.int .i64 0, .int .i64 0]) (t := 25) ?hr ?_; (case hd => rfl); (case hg => rfl); (case hr => first | (go_simp; done) | (go_simp; rfl)); intro gb210 hg w9 hbox hb; have n0_ := Aside0.mk (Kd.R_below (by (with_reducible repeat (first | apply Kd.R_alloc | apply Kd.R_drewN | apply Kd.R_drew)); exact HO207.out) hb); have n1_ := Aside0.mk (below_step (by repeat (first | (with_reducible first | exact HB.out | apply below_alloc | apply pw_below_drewN | apply below_drew1) | exact HB.out)) hb); have n2_ := Aside0.mk (hbox); have n3_ := Aside0.mk ((by rw [hg]; exact (below_size (by repeat (first | (with_reducible first | exact HB.out | apply below_alloc | apply pw_below_drewN | apply below_drew1) | exact HB.out))) : w.heap.size ≤ gb210)); have n4_ := Aside0.mk ((by rw [hg]; exact (below_size (by repeat (first | (with_reducible first | exact HB.out | apply below_alloc | apply pw_below_drewN | apply below_drew1) | exact HB.out))) : w.heap.size ≤ gb210)); clear HO207; clear HB; have HO207 := n0_; have HB := n1_; have BK210 := n2_; have GW210 := n3_; have GE210 := n4_; clear n0_ n1_ n2_ n3_ n4_; clear hb hbox hg; have hcz10_0 : w9.cell? ⟨gb210, 0, none⟩ = some (.int .i64 0) := (blk_cell BK210.out 0).trans rfl; have hcz10_1 : w9.cell? ⟨gb210, 1, none⟩ = some (.int .i64 0) := (blk_cell BK210.out 1).trans rfl; have hfz10_0 := blk_frozen BK210.out 0; have hfz10_1 := blk_frozen BK210.out 1) | ((with_reducible refine gate_callee (f := 10) rfl ?_); refine goesL_ (some 27) rfl rfl Try.func10 (by kernel_rfl) rfl #[.slice A2 l2.length c2, .slice A3 l3.length c3] rfl (by (try simp only [List.map_toArray, List.map_cons, List.map_nil]); first | done | rfl | (simp only [List.length_drop, List.length_take]; rfl)) ?_; (with_reducible refine (sampling_Merge.calls k _ _ l2 _ _ l3 t211 t214 t215 _ ?side1 ?side2 ?side3 ?side4 A6.out).mono ?_); (case side1 => exact Kd.C_below HR2.out (by repeat (first | (with_reducible first | exact HB.out | apply below_alloc | apply pw_below_drewN | apply below_drew1 | refine below_set ?_ GE210.out) | exact HB.out))); (case side2 => exact HC2.out); (case side3 => exact Kd.C_below HR3.out (by repeat (first | (with_reducible first | exact HB.out | apply below_alloc | apply pw_below_drewN | apply below_drew1 | refine below_set ?_ GE210.out) | exact HB.out))); (case side4 => exact HC3.out); rintro e w11 ⟨v212, rfl, ho0, hb⟩; refine ⟨_, rfl, ?_⟩; have n0_ := Aside0.mk (Kd.R_elder' (by (with_reducible repeat (first | apply Kd.R_alloc | apply Kd.R_drewN | apply Kd.R_drew)); exact (Kd.R_mono (xR2 HO207.out BK210.out (by decide) (.int .i64 t208) (.int .i64 t209)) (fun _ h_ => h_.1))) (Kd.R_base ho0) hb); have n1_ := Aside0.mk (Kd.R_lower (Kd.R_new' ho0 (Kd.R_lt (by (with_reducible repeat (first | apply Kd.R_alloc | apply Kd.R_drewN | apply Kd.R_drew)); exact (Kd.R_mono (xR2 HO207.out BK210.out (by decide) (.int .i64 t208) (.int .i64 t209)) (fun _ h_ => h_.1))))) (below_size (by repeat (first | (with_reducible first | exact HB.out | apply below_alloc | apply pw_below_drewN | apply below_drew1 | refine below_set ?_ GE210.out) | exact HB.out)))); have n2_ := Aside0.mk (blk_below (g := gb210) (o := .cells #[.int .i64 t208, .int .i64 t209] 25 (0, 0)) (by (with_reducible repeat (first | refine blk_drewN ?_ _ | refine blk_drew ?_ | refine blk_alloc ?_ _)); refine blk_put (cs := #[.int .i64 t208, .int .i64 0]) ?_ 1 _ rfl; (with_reducible repeat (first | refine blk_drewN ?_ _ | refine blk_drew ?_ | refine blk_alloc ?_ _)); refine blk_put (cs := #[.int .i64 0, .int .i64 0]) ?_ 0 _ rfl; (with_reducible repeat (first | refine blk_drewN ?_ _ | refine blk_drew ?_ | refine blk_alloc ?_ _)); exact BK210.out) hb); have n3_ := Aside0.mk (below_step (by repeat (first | (with_reducible first | exact HB.out | apply below_alloc | apply pw_below_drewN | apply below_drew1 | refine below_set ?_ GE210.out) | exact HB.out)) hb); clear HO207; clear BK210; clear HB; have HO207 := n0_; have HO213 := n1_; have BK210 := n2_; have HB := n3_; clear n0_ n1_ n2_ n3_; (try clear hb); (try clear hb2); (try clear hk); (try clear hi); (try clear ho0)) | ((with_reducible refine gate_dst (N := 12) rfl ?_); (try (refine gate_guard (by rfl) ?_; dsimp only)); refine box_event ?hg (N := 12) ?hd (cs := #[.int .i64 0, .int .i64 0]) (t := 25) ?hr ?_; (case hd => rfl); (case hg => rfl); (case hr => first | (go_simp; done) | (go_simp; rfl)); intro gb216 hg w12 hbox hb; have n0_ := Aside0.mk (Kd.R_below (by (with_reducible repeat (first | apply Kd.R_alloc | apply Kd.R_drewN | apply Kd.R_drew)); exact HO207.out) hb); have n1_ := Aside0.mk (Kd.R_below (by (with_reducible repeat (first | apply Kd.R_alloc | apply Kd.R_drewN | apply Kd.R_drew)); exact HO213.out) hb); have n2_ := Aside0.mk (blk_below (g := gb210) (o := .cells #[.int .i64 t208, .int .i64 t209] 25 (0, 0)) (by (with_reducible repeat (first | refine blk_drewN ?_ _ | refine blk_drew ?_ | refine blk_alloc ?_ _)); exact BK210.out) hb); have n3_ := Aside0.mk (below_step (by repeat (first | (with_reducible first | exact HB.out | apply below_alloc | apply pw_below_drewN | apply below_drew1 | refine below_set ?_ GE210.out) | exact HB.out)) hb); have n4_ := Aside0.mk (hbox); have n5_ := Aside0.mk ((by rw [hg]; exact (below_size (by repeat (first | (with_reducible first | exact HB.out | apply below_alloc | apply pw_below_drewN | apply below_drew1 | refine below_set ?_ GE210.out) | exact HB.out))) : w.heap.size ≤ gb216)); have n6_ := Aside0.mk ((by rw [hg]; exact (below_size (by repeat (first | (with_reducible first | exact HB.out | apply below_alloc | apply pw_below_drewN | apply below_drew1 | refine below_set ?_ GE210.out) | exact HB.out))) : w.heap.size ≤ gb216)); have n7_ := Aside0.mk ((by rw [hg]; exact Nat.ne_of_lt (blk_lt (g := gb210) (o := .cells #[.int .i64 t208, .int .i64 t209] 25 (0, 0)) (by (with_reducible repeat (first | refine blk_drewN ?_ _ | refine blk_drew ?_ | refine blk_alloc ?_ _)); exact BK210.out)) : gb210 ≠ gb216)); have n8_ := Aside0.mk ((by rw [hg]; exact Nat.ne_of_gt (blk_lt (g := gb210) (o := .cells #[.int .i64 t208, .int .i64 t209] 25 (0, 0)) (by (with_reducible repeat (first | refine blk_drewN ?_ _ | refine blk_drew ?_ | refine blk_alloc ?_ _)); exact BK210.out)) : gb216 ≠ gb210)); clear HO207; clear HO213; clear BK210; clear HB; have HO207 := n0_; have HO213 := n1_; have BK210 := n2_; have HB := n3_; have BK216 := n4_; have GW216 := n5_; have GE216 := n6_; have NB210_216 := n7_; have NB216_210 := n8_; clear n0_ n1_ n2_ n3_ n4_ n5_ n6_ n7_ n8_; clear hb hbox hg; have hnb13 := NB216_210.out; have hnc13 := NB210_216.out; have hcz14_0 : w12.cell? ⟨gb216, 0, none⟩ = some (.int .i64 0) := (blk_cell BK216.out 0).trans rfl; have hcz14_1 : w12.cell? ⟨gb216, 1, none⟩ = some (.int .i64 0) := (blk_cell BK216.out 1).trans rfl; have hfz14_0 := blk_frozen BK216.out 0; have hfz14_1 := blk_frozen BK216.out 1))
 (try simp only [Act.put, List.setIfInBounds_toArray, List.set_cons_zero, List.set_cons_succ])
 go_cut [41] (fun v41 wc => ∃ (kq : Nat) (x41_6 : Bool), v41 = .bool x41_6 ∧ Aside0 (lawMatches.j0 kq l0 a1 l2 l3 t205 t211 x41_6 t208 t209 t214 t215 = some r) ∧ Aside0 (kq ≤ k) ∧ Aside0 (Kd.R k32 32 wc w.heap.size (fun k_ => some k_ ≠ (v212 : Value).ownBlock) v206 t205) ∧ Aside0 (Kd.R k32 32 wc w.heap.size (fun k_ => some k_ ≠ (v206 : Value).ownBlock) v212 t211) ∧ Aside0 (wc.heap[gb210]? = some (.cells #[.int .i64 t208, .int .i64 t209] 25 (0, 0))) ∧ Aside0 (wc.heap[gb216]? = some (.cells #[.int .i64 t214, .int .i64 t215] 25 (0, 0))) ∧ Aside0 (Below w.heap.size w wc))
 case first => as_aux_lemma =>
  have H := HC7.out
  clear HC7
  replace H := Option.bind_eq_some_iff.mp H
  obtain ⟨⟨t217, t218⟩, A150, H⟩ := H
  replace H : ((linkhouseref8_ProfileFault.f k l2).bind fun bt219 => (if (!(t217 == bt219.1) || (!(t218 == bt219.2))) = true then (lawMatches.j0 k l0 a1 l2 l3 t205 t211 true t208 t209 t214 t215) else ((sampling_Validate.f k l3).bind fun bt221 => ((linkhouseref8_ProfileFault.f k l3).bind fun bt223 => (lawMatches.j0 k l0 a1 l2 l3 t205 t211 (!(bt221.1 == bt223.1) || (!(bt221.2 == bt223.2))) t208 t209 t214 t215))))) = some r := H
  have A15 := Aside0.mk A150
  clear A150
  replace H := Option.bind_eq_some_iff.mp H
  obtain ⟨⟨t219, t220⟩, A160, H⟩ := H
  replace H : (if (!(t217 == t219) || (!(t218 == t220))) = true then (lawMatches.j0 k l0 a1 l2 l3 t205 t211 true t208 t209 t214 t215) else ((sampling_Validate.f k l3).bind fun bt221 => ((linkhouseref8_ProfileFault.f k l3).bind fun bt223 => (lawMatches.j0 k l0 a1 l2 l3 t205 t211 (!(bt221.1 == bt223.1) || (!(bt221.2 == bt223.2))) t208 t209 t214 t215)))) = some r := H
  have A16 := Aside0.mk A160
  clear A160
  by_cases c17 : (!(t217 == t219) || (!(t218 == t220))) = true
  ·rw [if_pos c17] at H
   have c17b0 : (!(t217 == t219) || (!(t218 == t220))) = true := c17
   clear c17
   (first | rw [c17b0] | (simp only [i64_w, i32_w]; rw [c17b0]) | skip)
   have H' := Aside0.mk H
   clear H
   go_wp2_with (first | ((with_reducible refine gate_callee (f := 11) rfl ?_); refine goesL_ (some 31) rfl rfl Try.func11 (by kernel_rfl) rfl #[.slice A2 l2.length c2] rfl (by (try simp only [List.map_toArray, List.map_cons, List.map_nil]); first | done | rfl | (simp only [List.length_drop, List.length_take]; rfl)) ?_; (with_reducible refine (sampling_Validate.calls k _ _ l2 t217 t218 _ ?side1 ?side2 A15.out).mono ?_); (case side1 => exact Kd.C_below HR2.out (by repeat (first | (with_reducible first | exact HB.out | apply below_alloc | apply pw_below_drewN | apply below_drew1 | refine below_set ?_ GE210.out | refine below_set ?_ GE216.out) | exact HB.out))); (case side2 => exact HC2.out); rintro e w18 ⟨rfl, hb⟩; refine ⟨_, rfl, ?_⟩; have n0_ := Aside0.mk (Kd.R_below (by (with_reducible repeat (first | apply Kd.R_alloc | apply Kd.R_drewN | apply Kd.R_drew)); exact (Kd.R_mono (xR2 HO207.out BK216.out (by decide) (.int .i64 t214) (.int .i64 t215)) (fun _ h_ => h_.1))) hb); have n1_ := Aside0.mk (Kd.R_below (by (with_reducible repeat (first | apply Kd.R_alloc | apply Kd.R_drewN | apply Kd.R_drew)); exact (Kd.R_mono (xR2 HO213.out BK216.out (by decide) (.int .i64 t214) (.int .i64 t215)) (fun _ h_ => h_.1))) hb); have n2_ := Aside0.mk (blk_below (g := gb210) (o := .cells #[.int .i64 t208, .int .i64 t209] 25 (0, 0)) (by (with_reducible repeat (first | refine blk_drewN ?_ _ | refine blk_drew ?_ | refine blk_alloc ?_ _)); refine blk_far ?_ NB210_216.out _; refine blk_far ?_ NB210_216.out _; (with_reducible repeat (first | refine blk_drewN ?_ _ | refine blk_drew ?_ | refine blk_alloc ?_ _)); exact BK210.out) hb); have n3_ := Aside0.mk (blk_below (g := gb216) (o := .cells #[.int .i64 t214, .int .i64 t215] 25 (0, 0)) (by (with_reducible repeat (first | refine blk_drewN ?_ _ | refine blk_drew ?_ | refine blk_alloc ?_ _)); refine blk_put (cs := #[.int .i64 t214, .int .i64 0]) ?_ 1 _ rfl; (with_reducible repeat (first | refine blk_drewN ?_ _ | refine blk_drew ?_ | refine blk_alloc ?_ _)); refine blk_put (cs := #[.int .i64 0, .int .i64 0]) ?_ 0 _ rfl; (with_reducible repeat (first | refine blk_drewN ?_ _ | refine blk_drew ?_ | refine blk_alloc ?_ _)); exact BK216.out) hb); have n4_ := Aside0.mk (below_step (by repeat (first | (with_reducible first | exact HB.out | apply below_alloc | apply pw_below_drewN | apply below_drew1 | refine below_set ?_ GE210.out | refine below_set ?_ GE216.out) | exact HB.out)) hb); clear HO207; clear HO213; clear BK210; clear BK216; clear HB; have HO207 := n0_; have HO213 := n1_; have BK210 := n2_; have BK216 := n3_; have HB := n4_; clear n0_ n1_ n2_ n3_ n4_; (try clear hb); (try clear hb2); (try clear hk); (try clear hi)) | ((with_reducible refine gate_callee (f := 12) rfl ?_); refine goesL_ (some 33) rfl rfl Try.func12 (by kernel_rfl) rfl #[.slice A2 l2.length c2] rfl (by (try simp only [List.map_toArray, List.map_cons, List.map_nil]); first | done | rfl | (simp only [List.length_drop, List.length_take]; rfl)) ?_; (with_reducible refine (linkhouseref8_ProfileFault.calls k _ _ l2 t219 t220 _ ?side1 ?side2 A16.out).mono ?_); (case side1 => repeat (first | exact (Kd.C_below HR2.out HB.out) | (with_reducible refine Kd.C_alloc ?_ _) | (with_reducible refine Kd.C_drewN ?_ _) | (with_reducible refine Kd.C_drew ?_))); (case side2 => exact HC2.out); rintro e w19 ⟨rfl, hb⟩; refine ⟨_, rfl, ?_⟩; have n0_ := Aside0.mk (Kd.R_below (by (with_reducible repeat (first | apply Kd.R_alloc | apply Kd.R_drewN | apply Kd.R_drew)); exact HO207.out) hb); have n1_ := Aside0.mk (Kd.R_below (by (with_reducible repeat (first | apply Kd.R_alloc | apply Kd.R_drewN | apply Kd.R_drew)); exact HO213.out) hb); have n2_ := Aside0.mk (blk_below (g := gb210) (o := .cells #[.int .i64 t208, .int .i64 t209] 25 (0, 0)) (by (with_reducible repeat (first | refine blk_drewN ?_ _ | refine blk_drew ?_ | refine blk_alloc ?_ _)); exact BK210.out) hb); have n3_ := Aside0.mk (blk_below (g := gb216) (o := .cells #[.int .i64 t214, .int .i64 t215] 25 (0, 0)) (by (with_reducible repeat (first | refine blk_drewN ?_ _ | refine blk_drew ?_ | refine blk_alloc ?_ _)); exact BK216.out) hb); have n4_ := Aside0.mk (below_step (by repeat (first | (with_reducible first | exact HB.out | apply below_alloc | apply pw_below_drewN | apply below_drew1 | refine below_set ?_ GE210.out | refine below_set ?_ GE216.out) | exact HB.out)) hb); clear HO207; clear HO213; clear BK210; clear BK216; clear HB; have HO207 := n0_; have HO213 := n1_; have BK210 := n2_; have BK216 := n3_; have HB := n4_; clear n0_ n1_ n2_ n3_ n4_; (try clear hb); (try clear hb2); (try clear hk); (try clear hi)))
   go_meet
   case rel => exact ⟨_, (true), (by first | rfl | (simp; done) | (simp [*]; done)), H', ⟨by first | omega | exact Nat.le_refl _⟩, ⟨by (with_reducible repeat (first | apply Kd.R_alloc | apply Kd.R_drewN | apply Kd.R_drew)); exact Kd.R_mono HO207.out (fun _ hk => hk.2)⟩, ⟨by (with_reducible repeat (first | apply Kd.R_alloc | apply Kd.R_drewN | apply Kd.R_drew)); exact Kd.R_mono HO213.out (fun _ hk => hk.2)⟩, ⟨by (with_reducible repeat (first | refine blk_drewN ?_ _ | refine blk_drew ?_ | refine blk_alloc ?_ _)); exact BK210.out⟩, ⟨by (with_reducible repeat (first | refine blk_drewN ?_ _ | refine blk_drew ?_ | refine blk_alloc ?_ _)); exact BK216.out⟩, ⟨by repeat (first | (with_reducible first | exact HB.out | apply below_alloc | apply pw_below_drewN | apply below_drew1 | refine below_set ?_ GE210.out | refine below_set ?_ GE216.out) | exact HB.out)⟩⟩
  ·rw [if_neg c17] at H
   have c17b0 : (!(t217 == t219) || (!(t218 == t220))) = false := by simpa using c17
   clear c17
   (first | rw [c17b0] | (simp only [i64_w, i32_w]; rw [c17b0]) | skip)
   replace H := Option.bind_eq_some_iff.mp H
   obtain ⟨⟨t221, t222⟩, A200, H⟩ := H
   replace H : ((linkhouseref8_ProfileFault.f k l3).bind fun bt223 => (lawMatches.j0 k l0 a1 l2 l3 t205 t211 (!(t221 == bt223.1) || (!(t222 == bt223.2))) t208 t209 t214 t215)) = some r := H
   have A20 := Aside0.mk A200
   clear A200
   replace H := Option.bind_eq_some_iff.mp H
   obtain ⟨⟨t223, t224⟩, A210, H⟩ := H
   replace H : (lawMatches.j0 k l0 a1 l2 l3 t205 t211 (!(t221 == t223) || (!(t222 == t224))) t208 t209 t214 t215) = some r := H
   have A21 := Aside0.mk A210
   clear A210
   have H' := Aside0.mk H
   clear H
   go_wp2_with (first | ((with_reducible refine gate_callee (f := 11) rfl ?_); refine goesL_ (some 31) rfl rfl Try.func11 (by kernel_rfl) rfl #[.slice A2 l2.length c2] rfl (by (try simp only [List.map_toArray, List.map_cons, List.map_nil]); first | done | rfl | (simp only [List.length_drop, List.length_take]; rfl)) ?_; (with_reducible refine (sampling_Validate.calls k _ _ l2 t217 t218 _ ?side1 ?side2 A15.out).mono ?_); (case side1 => exact Kd.C_below HR2.out (by repeat (first | (with_reducible first | exact HB.out | apply below_alloc | apply pw_below_drewN | apply below_drew1 | refine below_set ?_ GE210.out | refine below_set ?_ GE216.out) | exact HB.out))); (case side2 => exact HC2.out); rintro e w22 ⟨rfl, hb⟩; refine ⟨_, rfl, ?_⟩; have n0_ := Aside0.mk (Kd.R_below (by (with_reducible repeat (first | apply Kd.R_alloc | apply Kd.R_drewN | apply Kd.R_drew)); exact (Kd.R_mono (xR2 HO207.out BK216.out (by decide) (.int .i64 t214) (.int .i64 t215)) (fun _ h_ => h_.1))) hb); have n1_ := Aside0.mk (Kd.R_below (by (with_reducible repeat (first | apply Kd.R_alloc | apply Kd.R_drewN | apply Kd.R_drew)); exact (Kd.R_mono (xR2 HO213.out BK216.out (by decide) (.int .i64 t214) (.int .i64 t215)) (fun _ h_ => h_.1))) hb); have n2_ := Aside0.mk (blk_below (g := gb210) (o := .cells #[.int .i64 t208, .int .i64 t209] 25 (0, 0)) (by (with_reducible repeat (first | refine blk_drewN ?_ _ | refine blk_drew ?_ | refine blk_alloc ?_ _)); refine blk_far ?_ NB210_216.out _; refine blk_far ?_ NB210_216.out _; (with_reducible repeat (first | refine blk_drewN ?_ _ | refine blk_drew ?_ | refine blk_alloc ?_ _)); exact BK210.out) hb); have n3_ := Aside0.mk (blk_below (g := gb216) (o := .cells #[.int .i64 t214, .int .i64 t215] 25 (0, 0)) (by (with_reducible repeat (first | refine blk_drewN ?_ _ | refine blk_drew ?_ | refine blk_alloc ?_ _)); refine blk_put (cs := #[.int .i64 t214, .int .i64 0]) ?_ 1 _ rfl; (with_reducible repeat (first | refine blk_drewN ?_ _ | refine blk_drew ?_ | refine blk_alloc ?_ _)); refine blk_put (cs := #[.int .i64 0, .int .i64 0]) ?_ 0 _ rfl; (with_reducible repeat (first | refine blk_drewN ?_ _ | refine blk_drew ?_ | refine blk_alloc ?_ _)); exact BK216.out) hb); have n4_ := Aside0.mk (below_step (by repeat (first | (with_reducible first | exact HB.out | apply below_alloc | apply pw_below_drewN | apply below_drew1 | refine below_set ?_ GE210.out | refine below_set ?_ GE216.out) | exact HB.out)) hb); clear HO207; clear HO213; clear BK210; clear BK216; clear HB; have HO207 := n0_; have HO213 := n1_; have BK210 := n2_; have BK216 := n3_; have HB := n4_; clear n0_ n1_ n2_ n3_ n4_; (try clear hb); (try clear hb2); (try clear hk); (try clear hi)) | ((with_reducible refine gate_callee (f := 12) rfl ?_); refine goesL_ (some 33) rfl rfl Try.func12 (by kernel_rfl) rfl #[.slice A2 l2.length c2] rfl (by (try simp only [List.map_toArray, List.map_cons, List.map_nil]); first | done | rfl | (simp only [List.length_drop, List.length_take]; rfl)) ?_; (with_reducible refine (linkhouseref8_ProfileFault.calls k _ _ l2 t219 t220 _ ?side1 ?side2 A16.out).mono ?_); (case side1 => repeat (first | exact (Kd.C_below HR2.out HB.out) | (with_reducible refine Kd.C_alloc ?_ _) | (with_reducible refine Kd.C_drewN ?_ _) | (with_reducible refine Kd.C_drew ?_))); (case side2 => exact HC2.out); rintro e w23 ⟨rfl, hb⟩; refine ⟨_, rfl, ?_⟩; have n0_ := Aside0.mk (Kd.R_below (by (with_reducible repeat (first | apply Kd.R_alloc | apply Kd.R_drewN | apply Kd.R_drew)); exact HO207.out) hb); have n1_ := Aside0.mk (Kd.R_below (by (with_reducible repeat (first | apply Kd.R_alloc | apply Kd.R_drewN | apply Kd.R_drew)); exact HO213.out) hb); have n2_ := Aside0.mk (blk_below (g := gb210) (o := .cells #[.int .i64 t208, .int .i64 t209] 25 (0, 0)) (by (with_reducible repeat (first | refine blk_drewN ?_ _ | refine blk_drew ?_ | refine blk_alloc ?_ _)); exact BK210.out) hb); have n3_ := Aside0.mk (blk_below (g := gb216) (o := .cells #[.int .i64 t214, .int .i64 t215] 25 (0, 0)) (by (with_reducible repeat (first | refine blk_drewN ?_ _ | refine blk_drew ?_ | refine blk_alloc ?_ _)); exact BK216.out) hb); have n4_ := Aside0.mk (below_step (by repeat (first | (with_reducible first | exact HB.out | apply below_alloc | apply pw_below_drewN | apply below_drew1 | refine below_set ?_ GE210.out | refine below_set ?_ GE216.out) | exact HB.out)) hb); clear HO207; clear HO213; clear BK210; clear BK216; clear HB; have HO207 := n0_; have HO213 := n1_; have BK210 := n2_; have BK216 := n3_; have HB := n4_; clear n0_ n1_ n2_ n3_ n4_; (try clear hb); (try clear hb2); (try clear hk); (try clear hi)) | (go_at_call 11; (with_reducible refine (sampling_Validate.calls k _ _ l3 t221 t222 _ ?side1 ?side2 A20.out).mono ?_); (case side1 => repeat (first | exact (Kd.C_below HR3.out HB.out) | (with_reducible refine Kd.C_alloc ?_ _) | (with_reducible refine Kd.C_drewN ?_ _) | (with_reducible refine Kd.C_drew ?_))); (case side2 => exact HC3.out); rintro e w24 ⟨rfl, hb⟩; have n0_ := Aside0.mk (Kd.R_below (by (with_reducible repeat (first | apply Kd.R_alloc | apply Kd.R_drewN | apply Kd.R_drew)); exact HO207.out) hb); have n1_ := Aside0.mk (Kd.R_below (by (with_reducible repeat (first | apply Kd.R_alloc | apply Kd.R_drewN | apply Kd.R_drew)); exact HO213.out) hb); have n2_ := Aside0.mk (blk_below (g := gb210) (o := .cells #[.int .i64 t208, .int .i64 t209] 25 (0, 0)) (by (with_reducible repeat (first | refine blk_drewN ?_ _ | refine blk_drew ?_ | refine blk_alloc ?_ _)); exact BK210.out) hb); have n3_ := Aside0.mk (blk_below (g := gb216) (o := .cells #[.int .i64 t214, .int .i64 t215] 25 (0, 0)) (by (with_reducible repeat (first | refine blk_drewN ?_ _ | refine blk_drew ?_ | refine blk_alloc ?_ _)); exact BK216.out) hb); have n4_ := Aside0.mk (below_step (by repeat (first | (with_reducible first | exact HB.out | apply below_alloc | apply pw_below_drewN | apply below_drew1 | refine below_set ?_ GE210.out | refine below_set ?_ GE216.out) | exact HB.out)) hb); clear HO207; clear HO213; clear BK210; clear BK216; clear HB; have HO207 := n0_; have HO213 := n1_; have BK210 := n2_; have BK216 := n3_; have HB := n4_; clear n0_ n1_ n2_ n3_ n4_; (try clear hb); (try clear hb2); (try clear hk); (try clear hi)) | (go_at_call 12; (with_reducible refine (linkhouseref8_ProfileFault.calls k _ _ l3 t223 t224 _ ?side1 ?side2 A21.out).mono ?_); (case side1 => repeat (first | exact (Kd.C_below HR3.out HB.out) | (with_reducible refine Kd.C_alloc ?_ _) | (with_reducible refine Kd.C_drewN ?_ _) | (with_reducible refine Kd.C_drew ?_))); (case side2 => exact HC3.out); rintro e w25 ⟨rfl, hb⟩; have n0_ := Aside0.mk (Kd.R_below (by (with_reducible repeat (first | apply Kd.R_alloc | apply Kd.R_drewN | apply Kd.R_drew)); exact HO207.out) hb); have n1_ := Aside0.mk (Kd.R_below (by (with_reducible repeat (first | apply Kd.R_alloc | apply Kd.R_drewN | apply Kd.R_drew)); exact HO213.out) hb); have n2_ := Aside0.mk (blk_below (g := gb210) (o := .cells #[.int .i64 t208, .int .i64 t209] 25 (0, 0)) (by (with_reducible repeat (first | refine blk_drewN ?_ _ | refine blk_drew ?_ | refine blk_alloc ?_ _)); exact BK210.out) hb); have n3_ := Aside0.mk (blk_below (g := gb216) (o := .cells #[.int .i64 t214, .int .i64 t215] 25 (0, 0)) (by (with_reducible repeat (first | refine blk_drewN ?_ _ | refine blk_drew ?_ | refine blk_alloc ?_ _)); exact BK216.out) hb); have n4_ := Aside0.mk (below_step (by repeat (first | (with_reducible first | exact HB.out | apply below_alloc | apply pw_below_drewN | apply below_drew1 | refine below_set ?_ GE210.out | refine below_set ?_ GE216.out) | exact HB.out)) hb); clear HO207; clear HO213; clear BK210; clear BK216; clear HB; have HO207 := n0_; have HO213 := n1_; have BK210 := n2_; have BK216 := n3_; have HB := n4_; clear n0_ n1_ n2_ n3_ n4_; (try clear hb); (try clear hb2); (try clear hk); (try clear hi)))
   go_meet
   case rel => exact ⟨_, ((!(t221 == t223) || (!(t222 == t224)))), (by first | rfl | (simp; done) | (simp [*]; done)), H', ⟨by first | omega | exact Nat.le_refl _⟩, ⟨by (with_reducible repeat (first | apply Kd.R_alloc | apply Kd.R_drewN | apply Kd.R_drew)); exact Kd.R_mono HO207.out (fun _ hk => hk.2)⟩, ⟨by (with_reducible repeat (first | apply Kd.R_alloc | apply Kd.R_drewN | apply Kd.R_drew)); exact Kd.R_mono HO213.out (fun _ hk => hk.2)⟩, ⟨by (with_reducible repeat (first | refine blk_drewN ?_ _ | refine blk_drew ?_ | refine blk_alloc ?_ _)); exact BK210.out⟩, ⟨by (with_reducible repeat (first | refine blk_drewN ?_ _ | refine blk_drew ?_ | refine blk_alloc ?_ _)); exact BK216.out⟩, ⟨by repeat (first | (with_reducible first | exact HB.out | apply below_alloc | apply pw_below_drewN | apply below_drew1 | refine below_set ?_ GE210.out | refine below_set ?_ GE216.out) | exact HB.out)⟩⟩
 case rest => as_aux_lemma =>
  clear HC7
  (try clear c1); (try clear c2); (try clear p2); (try clear c3); (try clear c4); (try clear c8); (try clear c10); (try clear c11); (try clear c12); (try clear c13); (try clear c17); (try clear c17b0); (try clear hcz10_0); (try clear hcz10_1); (try clear hcz14_0); (try clear hcz14_1); (try clear hfz10_0); (try clear hfz10_1); (try clear hfz14_0); (try clear hfz14_1)
  obtain ⟨kq, x41_6, rfl, HA, HJ6, HO_9, HO_11, BK210, BK216, HB⟩ := hcut
  cases kq with
  | zero => exact absurd HA.out (by simp [lawMatches.j0])
  | succ kj6 =>
   have H := HA.out
   clear HA
   simp only [lawMatches.j0] at H
   by_cases c26 : x41_6 = true
   ·subst c26
    have H1 : (some false) = some r := by rw [if_pos rfl] at H; exact H
    clear H
    have H := H1
    clear H1
    obtain rfl := Option.some.inj H
    go_wp2
    go_ret
    exact ⟨by first | rfl | (simp [errW_none, errW_some] <;> rfl) | (simp [*, errW_none, errW_some] <;> rfl), by repeat (first | (with_reducible first | exact HB.out | apply below_alloc | apply pw_below_drewN | apply below_drew1 | refine below_set ?_ GE210.out | refine below_set ?_ GE216.out) | exact HB.out)⟩
   ·replace c26 := Bool.eq_false_iff.mpr c26
    subst c26
    have H1 : (if (l0.length : Int) > 10000 then ((linkhouseref7_At.f 2 (-1)).bind fun bt226 => (lawMatches.j1 kj6 l0 a1 l2 l3 t205 t211 t208 t209 t214 t215 bt226.1 bt226.2)) else ((linkhouseref7_In.f a1 1 5000).bind fun t228 => (if t228 = true then (lawMatches.j1 kj6 l0 a1 l2 l3 t205 t211 t208 t209 t214 t215 0 0) else ((linkhouseref7_At.f 3 (-2)).bind fun bt229 => (lawMatches.j1 kj6 l0 a1 l2 l3 t205 t211 t208 t209 t214 t215 bt229.1 bt229.2))))) = some r := by rw [if_neg (show ¬ (false = true) by decide)] at H; exact H
    clear H
    have H := H1
    clear H1
    have HC27 := Aside0.mk H
    clear H
    go_upto_if 44 with (first | ((with_reducible refine gate_dst (N := 13) rfl ?_); (try (refine gate_guard (by rfl) ?_; dsimp only)); refine box_event ?hg (N := 13) ?hd (cs := #[.int .i64 0, .int .i64 0]) (t := 25) ?hr ?_; (case hd => rfl); (case hg => rfl); (case hr => first | (go_simp; done) | (go_simp; rfl)); intro gb225 hg w28 hbox hb; have n0_ := Aside0.mk (Kd.R_below (by (with_reducible repeat (first | apply Kd.R_alloc | apply Kd.R_drewN | apply Kd.R_drew)); exact HO_9.out) hb); have n1_ := Aside0.mk (Kd.R_below (by (with_reducible repeat (first | apply Kd.R_alloc | apply Kd.R_drewN | apply Kd.R_drew)); exact HO_11.out) hb); have n2_ := Aside0.mk (blk_below (g := gb210) (o := .cells #[.int .i64 t208, .int .i64 t209] 25 (0, 0)) (by (with_reducible repeat (first | refine blk_drewN ?_ _ | refine blk_drew ?_ | refine blk_alloc ?_ _)); exact BK210.out) hb); have n3_ := Aside0.mk (blk_below (g := gb216) (o := .cells #[.int .i64 t214, .int .i64 t215] 25 (0, 0)) (by (with_reducible repeat (first | refine blk_drewN ?_ _ | refine blk_drew ?_ | refine blk_alloc ?_ _)); exact BK216.out) hb); have n4_ := Aside0.mk (below_step (by repeat (first | (with_reducible first | exact HB.out | apply below_alloc | apply pw_below_drewN | apply below_drew1 | refine below_set ?_ GE210.out | refine below_set ?_ GE216.out) | exact HB.out)) hb); have n5_ := Aside0.mk (hbox); have n6_ := Aside0.mk ((by rw [hg]; exact (below_size (by repeat (first | (with_reducible first | exact HB.out | apply below_alloc | apply pw_below_drewN | apply below_drew1 | refine below_set ?_ GE210.out | refine below_set ?_ GE216.out) | exact HB.out))) : w.heap.size ≤ gb225)); have n7_ := Aside0.mk ((by rw [hg]; exact (below_size (by repeat (first | (with_reducible first | exact HB.out | apply below_alloc | apply pw_below_drewN | apply below_drew1 | refine below_set ?_ GE210.out | refine below_set ?_ GE216.out) | exact HB.out))) : w.heap.size ≤ gb225)); have n8_ := Aside0.mk ((by rw [hg]; exact Nat.ne_of_lt (blk_lt (g := gb210) (o := .cells #[.int .i64 t208, .int .i64 t209] 25 (0, 0)) (by (with_reducible repeat (first | refine blk_drewN ?_ _ | refine blk_drew ?_ | refine blk_alloc ?_ _)); exact BK210.out)) : gb210 ≠ gb225)); have n9_ := Aside0.mk ((by rw [hg]; exact Nat.ne_of_gt (blk_lt (g := gb210) (o := .cells #[.int .i64 t208, .int .i64 t209] 25 (0, 0)) (by (with_reducible repeat (first | refine blk_drewN ?_ _ | refine blk_drew ?_ | refine blk_alloc ?_ _)); exact BK210.out)) : gb225 ≠ gb210)); have n10_ := Aside0.mk ((by rw [hg]; exact Nat.ne_of_lt (blk_lt (g := gb216) (o := .cells #[.int .i64 t214, .int .i64 t215] 25 (0, 0)) (by (with_reducible repeat (first | refine blk_drewN ?_ _ | refine blk_drew ?_ | refine blk_alloc ?_ _)); exact BK216.out)) : gb216 ≠ gb225)); have n11_ := Aside0.mk ((by rw [hg]; exact Nat.ne_of_gt (blk_lt (g := gb216) (o := .cells #[.int .i64 t214, .int .i64 t215] 25 (0, 0)) (by (with_reducible repeat (first | refine blk_drewN ?_ _ | refine blk_drew ?_ | refine blk_alloc ?_ _)); exact BK216.out)) : gb225 ≠ gb216)); clear HO_9; clear HO_11; clear BK210; clear BK216; clear HB; have HO_9 := n0_; have HO_11 := n1_; have BK210 := n2_; have BK216 := n3_; have HB := n4_; have BK225 := n5_; have GW225 := n6_; have GE225 := n7_; have NB210_225 := n8_; have NB225_210 := n9_; have NB216_225 := n10_; have NB225_216 := n11_; clear n0_ n1_ n2_ n3_ n4_ n5_ n6_ n7_ n8_ n9_ n10_ n11_; clear hb hbox hg))
    (try simp only [Act.put, List.setIfInBounds_toArray, List.set_cons_zero, List.set_cons_succ])
    go_cut [] (fun wc => ∃ (kq : Nat) (x226000_26 : Int) (x226001_26 : Int), Aside0 (lawMatches.j1 kq l0 a1 l2 l3 t205 t211 t208 t209 t214 t215 x226000_26 x226001_26 = some r) ∧ Aside0 (kq ≤ kj6) ∧ Aside0 (Kd.R k32 32 wc w.heap.size (fun k_ => some k_ ≠ (v212 : Value).ownBlock) v206 t205) ∧ Aside0 (Kd.R k32 32 wc w.heap.size (fun k_ => some k_ ≠ (v206 : Value).ownBlock) v212 t211) ∧ Aside0 (wc.heap[gb210]? = some (.cells #[.int .i64 t208, .int .i64 t209] 25 (0, 0))) ∧ Aside0 (wc.heap[gb216]? = some (.cells #[.int .i64 t214, .int .i64 t215] 25 (0, 0))) ∧ Aside0 (wc.heap[gb225]? = some (.cells #[.int .i64 x226000_26, .int .i64 x226001_26] 25 (0, 0))) ∧ Aside0 (Below w.heap.size w wc))
    case first => as_aux_lemma =>
     have H := HC27.out
     clear HC27
     by_cases c29 : (l0.length : Int) > 10000
     ·rw [if_pos c29] at H
      have c29b0 : decide (10000 < (l0.length : Int)) = true := decide_eq_true c29
      have c29b1 : decide (10000 < l0.length) = true := decide_eq_true (by omega)
      clear c29
      (first | rw [c29b0] | (simp only [i64_w, i32_w]; rw [c29b0]) | skip)
      replace H := Option.bind_eq_some_iff.mp H
      obtain ⟨⟨t226, t227⟩, A300, H⟩ := H
      replace H : (lawMatches.j1 kj6 l0 a1 l2 l3 t205 t211 t208 t209 t214 t215 t226 t227) = some r := H
      have A30 := Aside0.mk A300
      clear A300
      have H' := Aside0.mk H
      clear H
      go_wp2_with (first | ((with_reducible refine gate_callee (f := 13) rfl ?_); refine goesL_ (some 45) rfl rfl Try.func13 (by kernel_rfl) rfl #[.int .i64 2, .int .i64 (-1)] rfl (by (try simp only [List.map_toArray, List.map_cons, List.map_nil]); first | done | rfl | (simp only [List.length_drop, List.length_take]; rfl)) ?_; (with_reducible refine (linkhouseref7_At.calls 2 (-1) t226 t227 _ A30.out).mono ?_); rintro e w31 ⟨rfl, hb⟩; refine ⟨_, rfl, ?_⟩; have n0_ := Aside0.mk (Kd.R_below (by (with_reducible repeat (first | apply Kd.R_alloc | apply Kd.R_drewN | apply Kd.R_drew)); exact HO_9.out) hb); have n1_ := Aside0.mk (Kd.R_below (by (with_reducible repeat (first | apply Kd.R_alloc | apply Kd.R_drewN | apply Kd.R_drew)); exact HO_11.out) hb); have n2_ := Aside0.mk (blk_below (g := gb210) (o := .cells #[.int .i64 t208, .int .i64 t209] 25 (0, 0)) (by (with_reducible repeat (first | refine blk_drewN ?_ _ | refine blk_drew ?_ | refine blk_alloc ?_ _)); exact BK210.out) hb); have n3_ := Aside0.mk (blk_below (g := gb216) (o := .cells #[.int .i64 t214, .int .i64 t215] 25 (0, 0)) (by (with_reducible repeat (first | refine blk_drewN ?_ _ | refine blk_drew ?_ | refine blk_alloc ?_ _)); exact BK216.out) hb); have n4_ := Aside0.mk (blk_below (g := gb225) (o := .cells #[.int .i64 0, .int .i64 0] 25 (0, 0)) (by (with_reducible repeat (first | refine blk_drewN ?_ _ | refine blk_drew ?_ | refine blk_alloc ?_ _)); exact BK225.out) hb); have n5_ := Aside0.mk (below_step (by repeat (first | (with_reducible first | exact HB.out | apply below_alloc | apply pw_below_drewN | apply below_drew1 | refine below_set ?_ GE210.out | refine below_set ?_ GE216.out | refine below_set ?_ GE225.out) | exact HB.out)) hb); clear HO_9; clear HO_11; clear BK210; clear BK216; clear BK225; clear HB; have HO_9 := n0_; have HO_11 := n1_; have BK210 := n2_; have BK216 := n3_; have BK225 := n4_; have HB := n5_; clear n0_ n1_ n2_ n3_ n4_ n5_; (try clear hb); (try clear hb2); (try clear hk); (try clear hi); have hnb32 := NB225_210.out; have hnc32 := NB210_225.out; have hnb33 := NB225_216.out; have hnc33 := NB216_225.out; have hcz34_0 : w31.cell? ⟨gb225, 0, none⟩ = some (.int .i64 0) := (blk_cell BK225.out 0).trans rfl; have hcz34_1 : w31.cell? ⟨gb225, 1, none⟩ = some (.int .i64 0) := (blk_cell BK225.out 1).trans rfl; have hfz34_0 := blk_frozen BK225.out 0; have hfz34_1 := blk_frozen BK225.out 1))
      go_meet
      case rel => exact ⟨_, (t226), (t227), H', ⟨by have := HJ6.out; first | omega | exact Nat.le_refl _⟩, ⟨by (with_reducible repeat (first | apply Kd.R_alloc | apply Kd.R_drewN | apply Kd.R_drew)); exact Kd.R_mono (xR2 HO_9.out BK225.out (by decide) (.int .i64 t226) (.int .i64 t227)) (fun _ hk => hk.1)⟩, ⟨by (with_reducible repeat (first | apply Kd.R_alloc | apply Kd.R_drewN | apply Kd.R_drew)); exact Kd.R_mono (xR2 HO_11.out BK225.out (by decide) (.int .i64 t226) (.int .i64 t227)) (fun _ hk => hk.1)⟩, ⟨by (with_reducible repeat (first | refine blk_drewN ?_ _ | refine blk_drew ?_ | refine blk_alloc ?_ _)); refine blk_far ?_ NB210_225.out _; refine blk_far ?_ NB210_225.out _; (with_reducible repeat (first | refine blk_drewN ?_ _ | refine blk_drew ?_ | refine blk_alloc ?_ _)); exact BK210.out⟩, ⟨by (with_reducible repeat (first | refine blk_drewN ?_ _ | refine blk_drew ?_ | refine blk_alloc ?_ _)); refine blk_far ?_ NB216_225.out _; refine blk_far ?_ NB216_225.out _; (with_reducible repeat (first | refine blk_drewN ?_ _ | refine blk_drew ?_ | refine blk_alloc ?_ _)); exact BK216.out⟩, ⟨by (with_reducible repeat (first | refine blk_drewN ?_ _ | refine blk_drew ?_ | refine blk_alloc ?_ _)); refine blk_put (cs := #[.int .i64 t226, .int .i64 0]) ?_ 1 _ rfl; (with_reducible repeat (first | refine blk_drewN ?_ _ | refine blk_drew ?_ | refine blk_alloc ?_ _)); refine blk_put (cs := #[.int .i64 0, .int .i64 0]) ?_ 0 _ rfl; (with_reducible repeat (first | refine blk_drewN ?_ _ | refine blk_drew ?_ | refine blk_alloc ?_ _)); exact BK225.out⟩, ⟨by repeat (first | (with_reducible first | exact HB.out | apply below_alloc | apply pw_below_drewN | apply below_drew1 | refine below_set ?_ GE210.out | refine below_set ?_ GE216.out | refine below_set ?_ GE225.out) | exact HB.out)⟩⟩
     ·rw [if_neg c29] at H
      have c29b0 : decide (10000 < (l0.length : Int)) = false := decide_eq_false c29
      have c29b1 : decide (10000 < l0.length) = false := decide_eq_false (by omega)
      clear c29
      (first | rw [c29b0] | (simp only [i64_w, i32_w]; rw [c29b0]) | skip)
      replace H := Option.bind_eq_some_iff.mp H
      obtain ⟨t228, A350, H⟩ := H
      replace H : (if t228 = true then (lawMatches.j1 kj6 l0 a1 l2 l3 t205 t211 t208 t209 t214 t215 0 0) else ((linkhouseref7_At.f 3 (-2)).bind fun bt229 => (lawMatches.j1 kj6 l0 a1 l2 l3 t205 t211 t208 t209 t214 t215 bt229.1 bt229.2))) = some r := H
      have A35 := Aside0.mk A350
      clear A350
      by_cases c36 : t228 = true
      ·subst c36
       have H1 : (lawMatches.j1 kj6 l0 a1 l2 l3 t205 t211 t208 t209 t214 t215 0 0) = some r := by rw [if_pos rfl] at H; exact H
       clear H
       have H := H1
       clear H1
       have H' := Aside0.mk H
       clear H
       go_wp2_with (first | ((with_reducible refine gate_callee (f := 14) rfl ?_); refine goesL_ (some 47) rfl rfl Try.func14 (by kernel_rfl) rfl #[.int .i64 a1, .int .i64 1, .int .i64 5000] rfl (by (try simp only [List.map_toArray, List.map_cons, List.map_nil]); first | done | rfl | (simp only [List.length_drop, List.length_take]; rfl)) ?_; (with_reducible refine (linkhouseref7_In.calls a1 1 5000 true _ A35.out).mono ?_); rintro e w' ⟨rfl, ⟨nd, rfl⟩⟩; refine ⟨_, rfl, ?_⟩))
       go_meet
       case rel => exact ⟨_, (0), (0), H', ⟨by have := HJ6.out; first | omega | exact Nat.le_refl _⟩, ⟨by (with_reducible repeat (first | apply Kd.R_alloc | apply Kd.R_drewN | apply Kd.R_drew)); exact HO_9.out⟩, ⟨by (with_reducible repeat (first | apply Kd.R_alloc | apply Kd.R_drewN | apply Kd.R_drew)); exact HO_11.out⟩, ⟨by (with_reducible repeat (first | refine blk_drewN ?_ _ | refine blk_drew ?_ | refine blk_alloc ?_ _)); exact BK210.out⟩, ⟨by (with_reducible repeat (first | refine blk_drewN ?_ _ | refine blk_drew ?_ | refine blk_alloc ?_ _)); exact BK216.out⟩, ⟨by (with_reducible repeat (first | refine blk_drewN ?_ _ | refine blk_drew ?_ | refine blk_alloc ?_ _)); exact BK225.out⟩, ⟨by repeat (first | (with_reducible first | exact HB.out | apply below_alloc | apply pw_below_drewN | apply below_drew1 | refine below_set ?_ GE210.out | refine below_set ?_ GE216.out | refine below_set ?_ GE225.out) | exact HB.out)⟩⟩
      ·replace c36 := Bool.eq_false_iff.mpr c36
       subst c36
       have H1 : ((linkhouseref7_At.f 3 (-2)).bind fun bt229 => (lawMatches.j1 kj6 l0 a1 l2 l3 t205 t211 t208 t209 t214 t215 bt229.1 bt229.2)) = some r := by rw [if_neg (show ¬ (false = true) by decide)] at H; exact H
       clear H
       have H := H1
       clear H1
       replace H := Option.bind_eq_some_iff.mp H
       obtain ⟨⟨t229, t230⟩, A370, H⟩ := H
       replace H : (lawMatches.j1 kj6 l0 a1 l2 l3 t205 t211 t208 t209 t214 t215 t229 t230) = some r := H
       have A37 := Aside0.mk A370
       clear A370
       have H' := Aside0.mk H
       clear H
       go_wp2_with (first | ((with_reducible refine gate_callee (f := 14) rfl ?_); refine goesL_ (some 47) rfl rfl Try.func14 (by kernel_rfl) rfl #[.int .i64 a1, .int .i64 1, .int .i64 5000] rfl (by (try simp only [List.map_toArray, List.map_cons, List.map_nil]); first | done | rfl | (simp only [List.length_drop, List.length_take]; rfl)) ?_; (with_reducible refine (linkhouseref7_In.calls a1 1 5000 false _ A35.out).mono ?_); rintro e w' ⟨rfl, ⟨nd, rfl⟩⟩; refine ⟨_, rfl, ?_⟩; (try (rw [drewN_self w28]; generalize hq_ : World.drewN w28 _ = w28; have n0_ : Aside0 (Kd.R k32 32 w28 w.heap.size (fun k_ => some k_ ≠ (v206 : Value).ownBlock) v212 t211) := ⟨by rw [← hq_]; exact (by (with_reducible repeat (first | apply Kd.R_alloc | apply Kd.R_drewN | apply Kd.R_drew)); exact HO_11.out)⟩; have n1_ : Aside0 (Kd.R k32 32 w28 w.heap.size (fun k_ => some k_ ≠ (v212 : Value).ownBlock) v206 t205) := ⟨by rw [← hq_]; exact (by (with_reducible repeat (first | apply Kd.R_alloc | apply Kd.R_drewN | apply Kd.R_drew)); exact HO_9.out)⟩; have n2_ : Aside0 (w28.heap[gb210]? = some (.cells #[.int .i64 t208, .int .i64 t209] 25 (0, 0))) := ⟨by rw [← hq_]; exact (by (with_reducible repeat (first | refine blk_drewN ?_ _ | refine blk_drew ?_ | refine blk_alloc ?_ _)); exact BK210.out)⟩; have n3_ : Aside0 (w28.heap[gb216]? = some (.cells #[.int .i64 t214, .int .i64 t215] 25 (0, 0))) := ⟨by rw [← hq_]; exact (by (with_reducible repeat (first | refine blk_drewN ?_ _ | refine blk_drew ?_ | refine blk_alloc ?_ _)); exact BK216.out)⟩; have n4_ : Aside0 (w28.heap[gb225]? = some (.cells #[.int .i64 0, .int .i64 0] 25 (0, 0))) := ⟨by rw [← hq_]; exact (by (with_reducible repeat (first | refine blk_drewN ?_ _ | refine blk_drew ?_ | refine blk_alloc ?_ _)); exact BK225.out)⟩; have n5_ : Aside0 (Below w.heap.size w w28) := ⟨by rw [← hq_]; exact (by repeat (first | (with_reducible first | exact HB.out | apply below_alloc | apply pw_below_drewN | apply below_drew1 | refine below_set ?_ GE210.out | refine below_set ?_ GE216.out | refine below_set ?_ GE225.out) | exact HB.out))⟩; clear HO_11 HO_9 BK210 BK216 BK225 HB hq_; have HO_11 := n0_; have HO_9 := n1_; have BK210 := n2_; have BK216 := n3_; have BK225 := n4_; have HB := n5_; clear n0_ n1_ n2_ n3_ n4_ n5_))) | ((with_reducible refine gate_callee (f := 13) rfl ?_); refine goesL_ (some 49) rfl rfl Try.func13 (by kernel_rfl) rfl #[.int .i64 3, .int .i64 (-2)] rfl (by (try simp only [List.map_toArray, List.map_cons, List.map_nil]); first | done | rfl | (simp only [List.length_drop, List.length_take]; rfl)) ?_; (with_reducible refine (linkhouseref7_At.calls 3 (-2) t229 t230 _ A37.out).mono ?_); rintro e w38 ⟨rfl, hb⟩; refine ⟨_, rfl, ?_⟩; have n0_ := Aside0.mk (Kd.R_below (by (with_reducible repeat (first | apply Kd.R_alloc | apply Kd.R_drewN | apply Kd.R_drew)); exact HO_9.out) hb); have n1_ := Aside0.mk (Kd.R_below (by (with_reducible repeat (first | apply Kd.R_alloc | apply Kd.R_drewN | apply Kd.R_drew)); exact HO_11.out) hb); have n2_ := Aside0.mk (blk_below (g := gb210) (o := .cells #[.int .i64 t208, .int .i64 t209] 25 (0, 0)) (by (with_reducible repeat (first | refine blk_drewN ?_ _ | refine blk_drew ?_ | refine blk_alloc ?_ _)); exact BK210.out) hb); have n3_ := Aside0.mk (blk_below (g := gb216) (o := .cells #[.int .i64 t214, .int .i64 t215] 25 (0, 0)) (by (with_reducible repeat (first | refine blk_drewN ?_ _ | refine blk_drew ?_ | refine blk_alloc ?_ _)); exact BK216.out) hb); have n4_ := Aside0.mk (blk_below (g := gb225) (o := .cells #[.int .i64 0, .int .i64 0] 25 (0, 0)) (by (with_reducible repeat (first | refine blk_drewN ?_ _ | refine blk_drew ?_ | refine blk_alloc ?_ _)); exact BK225.out) hb); have n5_ := Aside0.mk (below_step (by repeat (first | (with_reducible first | exact HB.out | apply below_alloc | apply pw_below_drewN | apply below_drew1 | refine below_set ?_ GE210.out | refine below_set ?_ GE216.out | refine below_set ?_ GE225.out) | exact HB.out)) hb); clear HO_9; clear HO_11; clear BK210; clear BK216; clear BK225; clear HB; have HO_9 := n0_; have HO_11 := n1_; have BK210 := n2_; have BK216 := n3_; have BK225 := n4_; have HB := n5_; clear n0_ n1_ n2_ n3_ n4_ n5_; (try clear hb); (try clear hb2); (try clear hk); (try clear hi); have hnb39 := NB225_210.out; have hnc39 := NB210_225.out; have hnb40 := NB225_216.out; have hnc40 := NB216_225.out; have hcz41_0 : w38.cell? ⟨gb225, 0, none⟩ = some (.int .i64 0) := (blk_cell BK225.out 0).trans rfl; have hcz41_1 : w38.cell? ⟨gb225, 1, none⟩ = some (.int .i64 0) := (blk_cell BK225.out 1).trans rfl; have hfz41_0 := blk_frozen BK225.out 0; have hfz41_1 := blk_frozen BK225.out 1))
       go_meet
       case rel => exact ⟨_, (t229), (t230), H', ⟨by have := HJ6.out; first | omega | exact Nat.le_refl _⟩, ⟨by (with_reducible repeat (first | apply Kd.R_alloc | apply Kd.R_drewN | apply Kd.R_drew)); exact Kd.R_mono (xR2 HO_9.out BK225.out (by decide) (.int .i64 t229) (.int .i64 t230)) (fun _ hk => hk.1)⟩, ⟨by (with_reducible repeat (first | apply Kd.R_alloc | apply Kd.R_drewN | apply Kd.R_drew)); exact Kd.R_mono (xR2 HO_11.out BK225.out (by decide) (.int .i64 t229) (.int .i64 t230)) (fun _ hk => hk.1)⟩, ⟨by (with_reducible repeat (first | refine blk_drewN ?_ _ | refine blk_drew ?_ | refine blk_alloc ?_ _)); refine blk_far ?_ NB210_225.out _; refine blk_far ?_ NB210_225.out _; (with_reducible repeat (first | refine blk_drewN ?_ _ | refine blk_drew ?_ | refine blk_alloc ?_ _)); exact BK210.out⟩, ⟨by (with_reducible repeat (first | refine blk_drewN ?_ _ | refine blk_drew ?_ | refine blk_alloc ?_ _)); refine blk_far ?_ NB216_225.out _; refine blk_far ?_ NB216_225.out _; (with_reducible repeat (first | refine blk_drewN ?_ _ | refine blk_drew ?_ | refine blk_alloc ?_ _)); exact BK216.out⟩, ⟨by (with_reducible repeat (first | refine blk_drewN ?_ _ | refine blk_drew ?_ | refine blk_alloc ?_ _)); refine blk_put (cs := #[.int .i64 t229, .int .i64 0]) ?_ 1 _ rfl; (with_reducible repeat (first | refine blk_drewN ?_ _ | refine blk_drew ?_ | refine blk_alloc ?_ _)); refine blk_put (cs := #[.int .i64 0, .int .i64 0]) ?_ 0 _ rfl; (with_reducible repeat (first | refine blk_drewN ?_ _ | refine blk_drew ?_ | refine blk_alloc ?_ _)); exact BK225.out⟩, ⟨by repeat (first | (with_reducible first | exact HB.out | apply below_alloc | apply pw_below_drewN | apply below_drew1 | refine below_set ?_ GE210.out | refine below_set ?_ GE216.out | refine below_set ?_ GE225.out) | exact HB.out)⟩⟩
    case rest => as_aux_lemma =>
     clear HC27
     (try clear c1); (try clear c2); (try clear p2); (try clear c3); (try clear c4); (try clear c8); (try clear c10); (try clear c11); (try clear c12); (try clear c13); (try clear c14); (try clear c17); (try clear c17b0); (try clear c26); (try clear c29); (try clear c29b0); (try clear c29b1); (try clear c32); (try clear c33); (try clear c36); (try clear c39); (try clear c40); (try clear hcz10_0); (try clear hcz10_1); (try clear hcz14_0); (try clear hcz14_1); (try clear hcz34_0); (try clear hcz34_1); (try clear hcz41_0); (try clear hcz41_1); (try clear hfz10_0); (try clear hfz10_1); (try clear hfz14_0); (try clear hfz14_1); (try clear hfz34_0); (try clear hfz34_1); (try clear hfz41_0); (try clear hfz41_1); (try clear p2)
     obtain ⟨kq, x226000_26, x226001_26, HA, HJ26, HO_9, HO_11, BK210, BK216, BK225, HB⟩ := hcut
     cases kq with
     | zero => exact absurd HA.out (by simp [lawMatches.j1])
     | succ kj26 =>
      have H := HA.out
      clear HA
      simp only [lawMatches.j1] at H
      have H' := Aside0.mk H
      clear H
      go_wp2
      go_loopg [14, 15, 16] kj26 (fun kq v14 v15 v16 w' => ∃ (x14_3 : List (S32)) (x15_3 : Int) (x16_3 : Int) (x226000_3 : Int) (x226001_3 : Int), v15 = .int .i64 x15_3 ∧ v16 = .int .i64 x16_3 ∧ Aside0 (lawMatches.l0 kq l0 a1 l2 l3 t205 t211 x14_3 x15_3 x16_3 t208 t209 t214 t215 x226000_3 x226001_3 = some r) ∧ Aside0 (kq ≤ kj26) ∧ Aside0 (Kd.R k32 32 w' w.heap.size (fun k_ => some k_ ≠ (v212 : Value).ownBlock ∧ some k_ ≠ (v14 : Value).ownBlock) v206 t205) ∧ Aside0 (Kd.R k32 32 w' w.heap.size (fun k_ => some k_ ≠ (v206 : Value).ownBlock ∧ some k_ ≠ (v14 : Value).ownBlock) v212 t211) ∧ Aside0 (Kd.R k32 32 w' w.heap.size (fun k_ => some k_ ≠ (v206 : Value).ownBlock ∧ some k_ ≠ (v212 : Value).ownBlock) v14 x14_3) ∧ Aside0 (w'.heap[gb210]? = some (.cells #[.int .i64 t208, .int .i64 t209] 25 (0, 0))) ∧ Aside0 (w'.heap[gb216]? = some (.cells #[.int .i64 t214, .int .i64 t215] 25 (0, 0))) ∧ Aside0 (w'.heap[gb225]? = some (.cells #[.int .i64 x226000_3, .int .i64 x226001_3] 25 (0, 0))) ∧ Aside0 (Below w.heap.size w w'))
      case atStart => exact ⟨(([] : List (S32))), (0), (0), (x226000_26), (x226001_26), (by first | rfl | (simp; done) | (simp [*]; done)), (by first | rfl | (simp; done) | (simp [*]; done)), H', ⟨Nat.le_refl _⟩, ⟨by (with_reducible repeat (first | apply Kd.R_alloc | apply Kd.R_drewN | apply Kd.R_drew)); exact Kd.R_mono HO_9.out (fun _ hk => ⟨hk, (by simp [Value.ownBlock])⟩)⟩, ⟨by (with_reducible repeat (first | apply Kd.R_alloc | apply Kd.R_drewN | apply Kd.R_drew)); exact Kd.R_mono HO_11.out (fun _ hk => ⟨hk, (by simp [Value.ownBlock])⟩)⟩, ⟨by first | exact Kd.R_nil _ _ _ _ _ | exact Kd.N_nil _ _ _ _ _ | exact Kd.V_nil _ _ _ _ _ | exact Kd.Q_nil _ _ _ _ _ | exact Kd.S_nil _ _ _ _ _⟩, ⟨by (with_reducible repeat (first | refine blk_drewN ?_ _ | refine blk_drew ?_ | refine blk_alloc ?_ _)); exact BK210.out⟩, ⟨by (with_reducible repeat (first | refine blk_drewN ?_ _ | refine blk_drew ?_ | refine blk_alloc ?_ _)); exact BK216.out⟩, ⟨by (with_reducible repeat (first | refine blk_drewN ?_ _ | refine blk_drew ?_ | refine blk_alloc ?_ _)); exact BK225.out⟩, ⟨by repeat (first | (with_reducible first | exact HB.out | apply below_alloc | apply pw_below_drewN | apply below_drew1 | refine below_set ?_ GE210.out | refine below_set ?_ GE216.out | refine below_set ?_ GE225.out) | exact HB.out)⟩⟩
      case round => as_aux_lemma =>
       clear H'
       (try clear c1); (try clear c2); (try clear p2); (try clear c3); (try clear c4); (try clear c8); (try clear c10); (try clear c11); (try clear c12); (try clear c13); (try clear c14); (try clear c17); (try clear c17b0); (try clear c26); (try clear c29); (try clear c29b0); (try clear c29b1); (try clear c32); (try clear c33); (try clear c36); (try clear c39); (try clear c40); (try clear hcz10_0); (try clear hcz10_1); (try clear hcz14_0); (try clear hcz14_1); (try clear hcz34_0); (try clear hcz34_1); (try clear hcz41_0); (try clear hcz41_1); (try clear hfz10_0); (try clear hfz10_1); (try clear hfz14_0); (try clear hfz14_1); (try clear hfz34_0); (try clear hfz34_1); (try clear hfz41_0); (try clear hfz41_1); (try clear p2)
       obtain ⟨x14_3, x15_3, x16_3, x226000_3, x226001_3, rfl, rfl, HA, HK3, HO_9, HO_11, HO_14, BK210, BK216, BK225, HB⟩ := hrel
       cases gk with
       | zero => exact absurd HA.out (by simp [lawMatches.l0])
       | succ k3 =>
        have H := HA.out
        clear HA
        simp only [lawMatches.l0] at H
        have HC42 := Aside0.mk H
        clear H
        go_upto_region 13 with (fail)
        go_cut [58] (fun v58 wc => ∃ (kq : Nat) (x58_41 : Bool), v58 = .bool x58_41 ∧ Aside0 (lawMatches.j3 kq l0 a1 l2 l3 t205 t211 x14_3 x15_3 x16_3 x58_41 t208 t209 t214 t215 x226000_3 x226001_3 = some r) ∧ Aside0 (kq ≤ k3) ∧ Aside0 (Kd.R k32 32 wc w.heap.size (fun k_ => some k_ ≠ (v212 : Value).ownBlock ∧ some k_ ≠ (u14 : Value).ownBlock) v206 t205) ∧ Aside0 (Kd.R k32 32 wc w.heap.size (fun k_ => some k_ ≠ (v206 : Value).ownBlock ∧ some k_ ≠ (u14 : Value).ownBlock) v212 t211) ∧ Aside0 (Kd.R k32 32 wc w.heap.size (fun k_ => some k_ ≠ (v206 : Value).ownBlock ∧ some k_ ≠ (v212 : Value).ownBlock) u14 x14_3) ∧ Aside0 (wc.heap[gb210]? = some (.cells #[.int .i64 t208, .int .i64 t209] 25 (0, 0))) ∧ Aside0 (wc.heap[gb216]? = some (.cells #[.int .i64 t214, .int .i64 t215] 25 (0, 0))) ∧ Aside0 (wc.heap[gb225]? = some (.cells #[.int .i64 x226000_3, .int .i64 x226001_3] 25 (0, 0))) ∧ Aside0 (Below w.heap.size w wc))
        case first => as_aux_lemma =>
         have H := HC42.out
         clear HC42
         by_cases c43 : x16_3 < (l0.length : Int)
         ·rw [if_pos c43] at H
          have c43b0 : decide (x16_3 < (l0.length : Int)) = true := decide_eq_true c43
          clear c43
          (first | rw [c43b0] | (simp only [i64_w, i32_w]; rw [c43b0]) | skip)
          have H' := Aside0.mk H
          clear H
          have hnb44 := NB225_210.out
          have hnc44 := NB210_225.out
          have hnb45 := NB225_216.out
          have hnc45 := NB216_225.out
          have hcz46_0 : wr.cell? ⟨gb225, 0, none⟩ = some (.int .i64 x226000_3) := (blk_cell BK225.out 0).trans rfl
          have hcz46_1 : wr.cell? ⟨gb225, 1, none⟩ = some (.int .i64 x226001_3) := (blk_cell BK225.out 1).trans rfl
          have hfz46_0 := blk_frozen BK225.out 0
          have hfz46_1 := blk_frozen BK225.out 1
          go_wp2
          go_meet
          case rel => exact ⟨_, ((x226000_3 == 0)), (by first | rfl | (simp; done) | (simp [*]; done)), H', ⟨by have := HJ6.out; have := HJ26.out; have := HK3.out; first | omega | exact Nat.le_refl _⟩, ⟨by (with_reducible repeat (first | apply Kd.R_alloc | apply Kd.R_drewN | apply Kd.R_drew)); exact HO_9.out⟩, ⟨by (with_reducible repeat (first | apply Kd.R_alloc | apply Kd.R_drewN | apply Kd.R_drew)); exact HO_11.out⟩, ⟨by (with_reducible repeat (first | apply Kd.R_alloc | apply Kd.R_drewN | apply Kd.R_drew)); exact HO_14.out⟩, ⟨by (with_reducible repeat (first | refine blk_drewN ?_ _ | refine blk_drew ?_ | refine blk_alloc ?_ _)); exact BK210.out⟩, ⟨by (with_reducible repeat (first | refine blk_drewN ?_ _ | refine blk_drew ?_ | refine blk_alloc ?_ _)); exact BK216.out⟩, ⟨by (with_reducible repeat (first | refine blk_drewN ?_ _ | refine blk_drew ?_ | refine blk_alloc ?_ _)); exact BK225.out⟩, ⟨by repeat (first | (with_reducible first | exact HB.out | apply below_alloc | apply pw_below_drewN | apply below_drew1 | refine below_set ?_ GE210.out | refine below_set ?_ GE216.out | refine below_set ?_ GE225.out) | exact HB.out)⟩⟩
         ·rw [if_neg c43] at H
          have c43b0 : decide (x16_3 < (l0.length : Int)) = false := decide_eq_false c43
          clear c43
          (first | rw [c43b0] | (simp only [i64_w, i32_w]; rw [c43b0]) | skip)
          have H' := Aside0.mk H
          clear H
          go_wp2
          go_meet
          case rel => exact ⟨_, (false), (by first | rfl | (simp; done) | (simp [*]; done)), H', ⟨by have := HJ6.out; have := HJ26.out; have := HK3.out; first | omega | exact Nat.le_refl _⟩, ⟨by (with_reducible repeat (first | apply Kd.R_alloc | apply Kd.R_drewN | apply Kd.R_drew)); exact HO_9.out⟩, ⟨by (with_reducible repeat (first | apply Kd.R_alloc | apply Kd.R_drewN | apply Kd.R_drew)); exact HO_11.out⟩, ⟨by (with_reducible repeat (first | apply Kd.R_alloc | apply Kd.R_drewN | apply Kd.R_drew)); exact HO_14.out⟩, ⟨by (with_reducible repeat (first | refine blk_drewN ?_ _ | refine blk_drew ?_ | refine blk_alloc ?_ _)); exact BK210.out⟩, ⟨by (with_reducible repeat (first | refine blk_drewN ?_ _ | refine blk_drew ?_ | refine blk_alloc ?_ _)); exact BK216.out⟩, ⟨by (with_reducible repeat (first | refine blk_drewN ?_ _ | refine blk_drew ?_ | refine blk_alloc ?_ _)); exact BK225.out⟩, ⟨by repeat (first | (with_reducible first | exact HB.out | apply below_alloc | apply pw_below_drewN | apply below_drew1 | refine below_set ?_ GE210.out | refine below_set ?_ GE216.out | refine below_set ?_ GE225.out) | exact HB.out)⟩⟩
        case rest => as_aux_lemma =>
         clear HC42
         (try clear c1); (try clear c2); (try clear p2); (try clear c3); (try clear c4); (try clear c8); (try clear c10); (try clear c11); (try clear c12); (try clear c13); (try clear c14); (try clear c17); (try clear c17b0); (try clear c26); (try clear c29); (try clear c29b0); (try clear c29b1); (try clear c32); (try clear c33); (try clear c36); (try clear c39); (try clear c40); (try clear c43); (try clear c43b0); (try clear c44); (try clear c45); (try clear hcz10_0); (try clear hcz10_1); (try clear hcz14_0); (try clear hcz14_1); (try clear hcz34_0); (try clear hcz34_1); (try clear hcz41_0); (try clear hcz41_1); (try clear hcz46_0); (try clear hcz46_1); (try clear hfz10_0); (try clear hfz10_1); (try clear hfz14_0); (try clear hfz14_1); (try clear hfz34_0); (try clear hfz34_1); (try clear hfz41_0); (try clear hfz41_1); (try clear hfz46_0); (try clear hfz46_1); (try clear p2)
         obtain ⟨kq, x58_41, rfl, HA, HJ41, HO_9, HO_11, HO_14, BK210, BK216, BK225, HB⟩ := hcut
         cases kq with
         | zero => exact absurd HA.out (by simp [lawMatches.j3])
         | succ kj41 =>
          have H := HA.out
          clear HA
          simp only [lawMatches.j3] at H
          by_cases c47 : x58_41 = true
          ·subst c47
           have H1 : (if 0 ≤ x16_3 then (if x16_3 < (l0.length : Int) then ((linkhouseref7_In.f ((rd_T30 l0 x16_3).f1) (-1) 1048575).bind fun t232 => (if t232 = true then (if ((rd_T30 l0 x16_3).f1) ≥ 0 then (if a1 = 0 then (none) else (if (Int.tmod (wrap64 (x15_3 + 1)) a1) = 0 then (if x14_3.length < 8796093022208 then (lawMatches.l0 kj41 l0 a1 l2 l3 t205 t211 (x14_3 ++ [(⟨(rd_T30 l0 x16_3).f1, 1⟩ : S32)]) (wrap64 (x15_3 + 1)) (wrap64 (x16_3 + 1)) t208 t209 t214 t215 x226000_3 x226001_3) else (none)) else (lawMatches.l0 kj41 l0 a1 l2 l3 t205 t211 x14_3 (wrap64 (x15_3 + 1)) (wrap64 (x16_3 + 1)) t208 t209 t214 t215 x226000_3 x226001_3))) else (lawMatches.l0 kj41 l0 a1 l2 l3 t205 t211 x14_3 x15_3 (wrap64 (x16_3 + 1)) t208 t209 t214 t215 x226000_3 x226001_3)) else ((linkhouseref7_At.f 3 x16_3).bind fun bt238 => (lawMatches.l0 kj41 l0 a1 l2 l3 t205 t211 x14_3 x15_3 (wrap64 (x16_3 + 1)) t208 t209 t214 t215 bt238.1 bt238.2)))) else (none)) else (none)) = some r := by rw [if_pos rfl] at H; exact H
           clear H
           have H := H1
           clear H1
           by_cases c48 : 0 ≤ x16_3
           ·rw [if_pos c48] at H
            have c48b0 : decide (0 ≤ x16_3) = true := decide_eq_true c48
            clear c48
            by_cases c49 : x16_3 < (l0.length : Int)
            ·rw [if_pos c49] at H
             have c49b0 : decide (x16_3 < (l0.length : Int)) = true := decide_eq_true c49
             clear c49
             replace H := Option.bind_eq_some_iff.mp H
             obtain ⟨t232, A500, H⟩ := H
             replace H : (if t232 = true then (if ((rd_T30 l0 x16_3).f1) ≥ 0 then (if a1 = 0 then (none) else (if (Int.tmod (wrap64 (x15_3 + 1)) a1) = 0 then (if x14_3.length < 8796093022208 then (lawMatches.l0 kj41 l0 a1 l2 l3 t205 t211 (x14_3 ++ [(⟨(rd_T30 l0 x16_3).f1, 1⟩ : S32)]) (wrap64 (x15_3 + 1)) (wrap64 (x16_3 + 1)) t208 t209 t214 t215 x226000_3 x226001_3) else (none)) else (lawMatches.l0 kj41 l0 a1 l2 l3 t205 t211 x14_3 (wrap64 (x15_3 + 1)) (wrap64 (x16_3 + 1)) t208 t209 t214 t215 x226000_3 x226001_3))) else (lawMatches.l0 kj41 l0 a1 l2 l3 t205 t211 x14_3 x15_3 (wrap64 (x16_3 + 1)) t208 t209 t214 t215 x226000_3 x226001_3)) else ((linkhouseref7_At.f 3 x16_3).bind fun bt238 => (lawMatches.l0 kj41 l0 a1 l2 l3 t205 t211 x14_3 x15_3 (wrap64 (x16_3 + 1)) t208 t209 t214 t215 bt238.1 bt238.2))) = some r := H
             have A50 := Aside0.mk A500
             clear A500
             by_cases c51 : t232 = true
             ·subst c51
              have H1 : (if ((rd_T30 l0 x16_3).f1) ≥ 0 then (if a1 = 0 then (none) else (if (Int.tmod (wrap64 (x15_3 + 1)) a1) = 0 then (if x14_3.length < 8796093022208 then (lawMatches.l0 kj41 l0 a1 l2 l3 t205 t211 (x14_3 ++ [(⟨(rd_T30 l0 x16_3).f1, 1⟩ : S32)]) (wrap64 (x15_3 + 1)) (wrap64 (x16_3 + 1)) t208 t209 t214 t215 x226000_3 x226001_3) else (none)) else (lawMatches.l0 kj41 l0 a1 l2 l3 t205 t211 x14_3 (wrap64 (x15_3 + 1)) (wrap64 (x16_3 + 1)) t208 t209 t214 t215 x226000_3 x226001_3))) else (lawMatches.l0 kj41 l0 a1 l2 l3 t205 t211 x14_3 x15_3 (wrap64 (x16_3 + 1)) t208 t209 t214 t215 x226000_3 x226001_3)) = some r := by rw [if_pos rfl] at H; exact H
              clear H
              have H := H1
              clear H1
              by_cases c52 : ((rd_T30 l0 x16_3).f1) ≥ 0
              ·rw [if_pos c52] at H
               have c52b0 : decide (0 ≤ ((rd_T30 l0 x16_3).f1)) = true := decide_eq_true c52
               clear c52
               by_cases c53 : a1 = 0
               ·rw [if_pos c53] at H
                exact absurd H (by simp)
               ·rw [if_neg c53] at H
                have c53b0 : (a1 == 0) = false := beq_eq_false_iff_ne.mpr c53
                have c53b1 : (a1 != 0) = true := bne_iff_ne.mpr c53
                by_cases c54 : (Int.tmod (wrap64 (x15_3 + 1)) a1) = 0
                ·rw [if_pos c54] at H
                 have c54b0 : ((Int.tmod (wrap64 (x15_3 + 1)) a1) == 0) = true := beq_iff_eq.mpr c54
                 have c54b1 : ((Int.tmod (wrap64 (x15_3 + 1)) a1) != 0) = false := bne_eq_false_iff_eq.mpr c54
                 clear c54
                 by_cases c55 : x14_3.length < 8796093022208
                 ·rw [if_pos c55] at H
                  have LMc55 := Aside0.mk c55
                  clear c55
                  obtain ⟨y235, hy235⟩ : ∃ y_ : List (S32), y_ = (x14_3 ++ [(⟨(rd_T30 l0 x16_3).f1, 1⟩ : S32)]) := ⟨_, rfl⟩
                  replace H : (lawMatches.l0 kj41 l0 a1 l2 l3 t205 t211 y235 (wrap64 (x15_3 + 1)) (wrap64 (x16_3 + 1)) t208 t209 t214 t215 x226000_3 x226001_3) = some r := by first | (rw [hy235]; with_reducible exact H) | (have H2_ := (Option.bind_some _ _).symm.trans H; rw [hy235]; with_reducible exact H2_) | (have H2_ := (Option.bind_some _ _).symm.trans H; with_reducible exact H2_) | with_reducible exact H | (rw [hy235]; exact H) | exact H
                  have Ny235 := Aside0.mk hy235
                  clear hy235
                  have H' := Aside0.mk H
                  clear H
                  have p231 : 0 ≤ (x16_3 : Int) := of_decide_eq_true (by first | (with_reducible assumption) | assumption)
                  have q231 : x16_3 < (l0.length : Int) := of_decide_eq_true (by first | (with_reducible assumption) | assumption)
                  obtain ⟨ad231, e231, hx231_0, hx231_1, hx231_2⟩ := at_T30 HR0.out x16_3 p231 q231
                  cases e231
                  replace hx231_0 := (HB.out.cell (World.block_lt_of_cell? w _ hx231_0)).trans hx231_0
                  replace hx231_1 := (HB.out.cell (World.block_lt_of_cell? w _ hx231_1)).trans hx231_1
                  replace hx231_2 := (HB.out.cell (World.block_lt_of_cell? w _ hx231_2)).trans hx231_2
                  replace p231 := eq_true p231
                  replace q231 := eq_true q231
                  go_wp2_with (first | ((with_reducible refine gate_callee (f := 14) rfl ?_); refine goesL_ (some 66) rfl rfl Try.func14 (by kernel_rfl) rfl #[.int .i64 ((rd_T30 l0 x16_3).f1), .int .i64 (-1), .int .i64 1048575] rfl (by (try simp only [List.map_toArray, List.map_cons, List.map_nil]); first | done | rfl | (simp only [List.length_drop, List.length_take]; rfl)) ?_; (with_reducible refine (linkhouseref7_In.calls ((rd_T30 l0 x16_3).f1) (-1) 1048575 true _ A50.out).mono ?_); rintro e w' ⟨rfl, ⟨nd, rfl⟩⟩; refine ⟨_, rfl, ?_⟩; have p233 : 0 ≤ (x16_3 : Int) := of_decide_eq_true (by first | (with_reducible assumption) | assumption); have q233 : x16_3 < (l0.length : Int) := of_decide_eq_true (by first | (with_reducible assumption) | assumption); obtain ⟨ad233, e233, hx233_0, hx233_1, hx233_2⟩ := at_T30 HR0.out x16_3 p233 q233; obtain rfl : ad231 = ad233 := (by injection e233); replace hx233_0 := (HB.out.cell (World.block_lt_of_cell? w _ hx233_0)).trans hx233_0; replace hx233_1 := (HB.out.cell (World.block_lt_of_cell? w _ hx233_1)).trans hx233_1; replace hx233_2 := (HB.out.cell (World.block_lt_of_cell? w _ hx233_2)).trans hx233_2; replace p233 := eq_true p233; replace q233 := eq_true q233; have p234 : 0 ≤ (x16_3 : Int) := of_decide_eq_true (by first | (with_reducible assumption) | assumption); have q234 : x16_3 < (l0.length : Int) := of_decide_eq_true (by first | (with_reducible assumption) | assumption); obtain ⟨ad234, e234, hx234_0, hx234_1, hx234_2⟩ := at_T30 HR0.out x16_3 p234 q234; obtain rfl : ad231 = ad234 := (by injection e234); replace hx234_0 := (HB.out.cell (World.block_lt_of_cell? w _ hx234_0)).trans hx234_0; replace hx234_1 := (HB.out.cell (World.block_lt_of_cell? w _ hx234_1)).trans hx234_1; replace hx234_2 := (HB.out.cell (World.block_lt_of_cell? w _ hx234_2)).trans hx234_2; replace p234 := eq_true p234; replace q234 := eq_true q234) | ((with_reducible refine gate_builtin (b := .append) (xs := #[.tmp 82, .tmp 89]) rfl ?_); (try (refine gate_guard (by rfl) ?_; dsimp only)); at_builtin; refine Kd.R_append k32 (w0 := w) w.heap.size rfl (.tmp 82) (.tmp 89) 23 32 (.agg #[(.int .i64 0), (.int .i64 0)]) 16 rfl Try.underlying23 info32 rfl (by decide) (by omega) u14 x14_3 (⟨(rd_T30 l0 x16_3).f1, 1⟩ : S32) [.int .i64 ((rd_T30 l0 x16_3).f1), .int .i64 1] (fun k_ => some k_ ≠ (v206 : Value).ownBlock ∧ some k_ ≠ (v212 : Value).ownBlock) (fun _ => False) rfl rfl ?aP (fun _ hk => hk.elim) ?aF ?aO ?aB ?aS ?aL ?_; (case aP => exact k32_mkM _ _ _ (⟨(rd_T30 l0 x16_3).f1, 1⟩ : S32)); (case aB => exact (by repeat (first | (with_reducible first | exact HB.out | apply below_alloc | apply pw_below_drewN | apply below_drew1 | refine below_set ?_ GE210.out | refine below_set ?_ GE216.out | refine below_set ?_ GE225.out) | exact HB.out))); (case aF => exact (fun k_ hk => ⟨Kd.fresh' (Kd.R_lt (by (with_reducible repeat (first | apply Kd.R_alloc | apply Kd.R_drewN | apply Kd.R_drew)); exact HO_9.out)) k_ hk, Kd.fresh' (Kd.R_lt (by (with_reducible repeat (first | apply Kd.R_alloc | apply Kd.R_drewN | apply Kd.R_drew)); exact HO_11.out)) k_ hk⟩)); (case aO => exact (by (with_reducible repeat (first | apply Kd.R_alloc | apply Kd.R_drewN | apply Kd.R_drew)); exact HO_14.out)); (case aS => exact (below_size (by repeat (first | (with_reducible first | exact HB.out | apply below_alloc | apply pw_below_drewN | apply below_drew1 | refine below_set ?_ GE210.out | refine below_set ?_ GE216.out | refine below_set ?_ GE225.out) | exact HB.out)))); (case aL => have := LMc55.out; omega); intro v236 w56 ho hb hg hat; rw [← Ny235.out] at ho; have n0_ := Aside0.mk (Kd.R_after (ok := (fun k_ => some k_ ≠ (v212 : Value).ownBlock)) (by (with_reducible repeat (first | apply Kd.R_alloc | apply Kd.R_drewN | apply Kd.R_drew)); exact HO_9.out) hg hat); have n1_ := Aside0.mk (Kd.R_after (ok := (fun k_ => some k_ ≠ (v206 : Value).ownBlock)) (by (with_reducible repeat (first | apply Kd.R_alloc | apply Kd.R_drewN | apply Kd.R_drew)); exact HO_11.out) hg hat); have n2_ := Aside0.mk (blk_grown (g := gb210) (o := .cells #[.int .i64 t208, .int .i64 t209] 25 (0, 0)) (by (with_reducible repeat (first | refine blk_drewN ?_ _ | refine blk_drew ?_ | refine blk_alloc ?_ _)); exact BK210.out) hg (Kd.R_ne HO_14.out BK210.out (by decide))); have n3_ := Aside0.mk (blk_grown (g := gb216) (o := .cells #[.int .i64 t214, .int .i64 t215] 25 (0, 0)) (by (with_reducible repeat (first | refine blk_drewN ?_ _ | refine blk_drew ?_ | refine blk_alloc ?_ _)); exact BK216.out) hg (Kd.R_ne HO_14.out BK216.out (by decide))); have n4_ := Aside0.mk (blk_grown (g := gb225) (o := .cells #[.int .i64 x226000_3, .int .i64 x226001_3] 25 (0, 0)) (by (with_reducible repeat (first | refine blk_drewN ?_ _ | refine blk_drew ?_ | refine blk_alloc ?_ _)); exact BK225.out) hg (Kd.R_ne HO_14.out BK225.out (by decide))); have n5_ := Aside0.mk (hb); have n6_ := Aside0.mk (ho); clear HO_9; clear HO_11; clear BK210; clear BK216; clear BK225; clear HB; clear HO_14; have HO_9 := n0_; have HO_11 := n1_; have BK210 := n2_; have BK216 := n3_; have BK225 := n4_; have HB := n5_; have HO237 := n6_; clear n0_ n1_ n2_ n3_ n4_ n5_ n6_; clear ho hb hg hat))
                  go_roundg kj41
                  case measure => have := HJ6.out; have := HJ26.out; have := HK3.out; have := HJ41.out; omega
                  case rel => exact ⟨(y235), (wrap64 (x15_3 + 1)), (wrap64 (x16_3 + 1)), (x226000_3), (x226001_3), (by first | rfl | (simp; done) | (simp [*]; done)), (by first | rfl | (simp; done) | (simp [*]; done)), H', ⟨by have := HJ6.out; have := HJ26.out; have := HK3.out; have := HJ41.out; omega⟩, ⟨by (with_reducible repeat (first | apply Kd.R_alloc | apply Kd.R_drewN | apply Kd.R_drew)); exact HO_9.out⟩, ⟨by (with_reducible repeat (first | apply Kd.R_alloc | apply Kd.R_drewN | apply Kd.R_drew)); exact HO_11.out⟩, ⟨by (with_reducible repeat (first | apply Kd.R_alloc | apply Kd.R_drewN | apply Kd.R_drew)); exact HO237.out⟩, ⟨by (with_reducible repeat (first | refine blk_drewN ?_ _ | refine blk_drew ?_ | refine blk_alloc ?_ _)); exact BK210.out⟩, ⟨by (with_reducible repeat (first | refine blk_drewN ?_ _ | refine blk_drew ?_ | refine blk_alloc ?_ _)); exact BK216.out⟩, ⟨by (with_reducible repeat (first | refine blk_drewN ?_ _ | refine blk_drew ?_ | refine blk_alloc ?_ _)); exact BK225.out⟩, ⟨by repeat (first | (with_reducible first | exact HB.out | apply below_alloc | apply pw_below_drewN | apply below_drew1 | refine below_set ?_ GE210.out | refine below_set ?_ GE216.out | refine below_set ?_ GE225.out) | exact HB.out)⟩⟩
                 ·rw [if_neg c55] at H
                  exact absurd H (by simp)
                ·rw [if_neg c54] at H
                 have c54b0 : ((Int.tmod (wrap64 (x15_3 + 1)) a1) == 0) = false := beq_eq_false_iff_ne.mpr c54
                 have c54b1 : ((Int.tmod (wrap64 (x15_3 + 1)) a1) != 0) = true := bne_iff_ne.mpr c54
                 have H' := Aside0.mk H
                 clear H
                 have p231 : 0 ≤ (x16_3 : Int) := of_decide_eq_true (by first | (with_reducible assumption) | assumption)
                 have q231 : x16_3 < (l0.length : Int) := of_decide_eq_true (by first | (with_reducible assumption) | assumption)
                 obtain ⟨ad231, e231, hx231_0, hx231_1, hx231_2⟩ := at_T30 HR0.out x16_3 p231 q231
                 cases e231
                 replace hx231_0 := (HB.out.cell (World.block_lt_of_cell? w _ hx231_0)).trans hx231_0
                 replace hx231_1 := (HB.out.cell (World.block_lt_of_cell? w _ hx231_1)).trans hx231_1
                 replace hx231_2 := (HB.out.cell (World.block_lt_of_cell? w _ hx231_2)).trans hx231_2
                 replace p231 := eq_true p231
                 replace q231 := eq_true q231
                 go_wp2_with (first | ((with_reducible refine gate_callee (f := 14) rfl ?_); refine goesL_ (some 66) rfl rfl Try.func14 (by kernel_rfl) rfl #[.int .i64 ((rd_T30 l0 x16_3).f1), .int .i64 (-1), .int .i64 1048575] rfl (by (try simp only [List.map_toArray, List.map_cons, List.map_nil]); first | done | rfl | (simp only [List.length_drop, List.length_take]; rfl)) ?_; (with_reducible refine (linkhouseref7_In.calls ((rd_T30 l0 x16_3).f1) (-1) 1048575 true _ A50.out).mono ?_); rintro e w' ⟨rfl, ⟨nd, rfl⟩⟩; refine ⟨_, rfl, ?_⟩; have p233 : 0 ≤ (x16_3 : Int) := of_decide_eq_true (by first | (with_reducible assumption) | assumption); have q233 : x16_3 < (l0.length : Int) := of_decide_eq_true (by first | (with_reducible assumption) | assumption); obtain ⟨ad233, e233, hx233_0, hx233_1, hx233_2⟩ := at_T30 HR0.out x16_3 p233 q233; obtain rfl : ad231 = ad233 := (by injection e233); replace hx233_0 := (HB.out.cell (World.block_lt_of_cell? w _ hx233_0)).trans hx233_0; replace hx233_1 := (HB.out.cell (World.block_lt_of_cell? w _ hx233_1)).trans hx233_1; replace hx233_2 := (HB.out.cell (World.block_lt_of_cell? w _ hx233_2)).trans hx233_2; replace p233 := eq_true p233; replace q233 := eq_true q233))
                 go_roundg kj41
                 case measure => have := HJ6.out; have := HJ26.out; have := HK3.out; have := HJ41.out; omega
                 case rel => exact ⟨(x14_3), (wrap64 (x15_3 + 1)), (wrap64 (x16_3 + 1)), (x226000_3), (x226001_3), (by first | rfl | (simp; done) | (simp [*]; done)), (by first | rfl | (simp; done) | (simp [*]; done)), H', ⟨by have := HJ6.out; have := HJ26.out; have := HK3.out; have := HJ41.out; omega⟩, ⟨by (with_reducible repeat (first | apply Kd.R_alloc | apply Kd.R_drewN | apply Kd.R_drew)); exact HO_9.out⟩, ⟨by (with_reducible repeat (first | apply Kd.R_alloc | apply Kd.R_drewN | apply Kd.R_drew)); exact HO_11.out⟩, ⟨by (with_reducible repeat (first | apply Kd.R_alloc | apply Kd.R_drewN | apply Kd.R_drew)); exact HO_14.out⟩, ⟨by (with_reducible repeat (first | refine blk_drewN ?_ _ | refine blk_drew ?_ | refine blk_alloc ?_ _)); exact BK210.out⟩, ⟨by (with_reducible repeat (first | refine blk_drewN ?_ _ | refine blk_drew ?_ | refine blk_alloc ?_ _)); exact BK216.out⟩, ⟨by (with_reducible repeat (first | refine blk_drewN ?_ _ | refine blk_drew ?_ | refine blk_alloc ?_ _)); exact BK225.out⟩, ⟨by repeat (first | (with_reducible first | exact HB.out | apply below_alloc | apply pw_below_drewN | apply below_drew1 | refine below_set ?_ GE210.out | refine below_set ?_ GE216.out | refine below_set ?_ GE225.out) | exact HB.out)⟩⟩
              ·rw [if_neg c52] at H
               have c52b0 : decide (0 ≤ ((rd_T30 l0 x16_3).f1)) = false := decide_eq_false c52
               clear c52
               have H' := Aside0.mk H
               clear H
               have p231 : 0 ≤ (x16_3 : Int) := of_decide_eq_true (by first | (with_reducible assumption) | assumption)
               have q231 : x16_3 < (l0.length : Int) := of_decide_eq_true (by first | (with_reducible assumption) | assumption)
               obtain ⟨ad231, e231, hx231_0, hx231_1, hx231_2⟩ := at_T30 HR0.out x16_3 p231 q231
               cases e231
               replace hx231_0 := (HB.out.cell (World.block_lt_of_cell? w _ hx231_0)).trans hx231_0
               replace hx231_1 := (HB.out.cell (World.block_lt_of_cell? w _ hx231_1)).trans hx231_1
               replace hx231_2 := (HB.out.cell (World.block_lt_of_cell? w _ hx231_2)).trans hx231_2
               replace p231 := eq_true p231
               replace q231 := eq_true q231
               go_wp2_with (first | ((with_reducible refine gate_callee (f := 14) rfl ?_); refine goesL_ (some 66) rfl rfl Try.func14 (by kernel_rfl) rfl #[.int .i64 ((rd_T30 l0 x16_3).f1), .int .i64 (-1), .int .i64 1048575] rfl (by (try simp only [List.map_toArray, List.map_cons, List.map_nil]); first | done | rfl | (simp only [List.length_drop, List.length_take]; rfl)) ?_; (with_reducible refine (linkhouseref7_In.calls ((rd_T30 l0 x16_3).f1) (-1) 1048575 true _ A50.out).mono ?_); rintro e w' ⟨rfl, ⟨nd, rfl⟩⟩; refine ⟨_, rfl, ?_⟩; have p233 : 0 ≤ (x16_3 : Int) := of_decide_eq_true (by first | (with_reducible assumption) | assumption); have q233 : x16_3 < (l0.length : Int) := of_decide_eq_true (by first | (with_reducible assumption) | assumption); obtain ⟨ad233, e233, hx233_0, hx233_1, hx233_2⟩ := at_T30 HR0.out x16_3 p233 q233; obtain rfl : ad231 = ad233 := (by injection e233); replace hx233_0 := (HB.out.cell (World.block_lt_of_cell? w _ hx233_0)).trans hx233_0; replace hx233_1 := (HB.out.cell (World.block_lt_of_cell? w _ hx233_1)).trans hx233_1; replace hx233_2 := (HB.out.cell (World.block_lt_of_cell? w _ hx233_2)).trans hx233_2; replace p233 := eq_true p233; replace q233 := eq_true q233))
               go_roundg kj41
               case measure => have := HJ6.out; have := HJ26.out; have := HK3.out; have := HJ41.out; omega
               case rel => exact ⟨(x14_3), (x15_3), (wrap64 (x16_3 + 1)), (x226000_3), (x226001_3), (by first | rfl | (simp; done) | (simp [*]; done)), (by first | rfl | (simp; done) | (simp [*]; done)), H', ⟨by have := HJ6.out; have := HJ26.out; have := HK3.out; have := HJ41.out; omega⟩, ⟨by (with_reducible repeat (first | apply Kd.R_alloc | apply Kd.R_drewN | apply Kd.R_drew)); exact HO_9.out⟩, ⟨by (with_reducible repeat (first | apply Kd.R_alloc | apply Kd.R_drewN | apply Kd.R_drew)); exact HO_11.out⟩, ⟨by (with_reducible repeat (first | apply Kd.R_alloc | apply Kd.R_drewN | apply Kd.R_drew)); exact HO_14.out⟩, ⟨by (with_reducible repeat (first | refine blk_drewN ?_ _ | refine blk_drew ?_ | refine blk_alloc ?_ _)); exact BK210.out⟩, ⟨by (with_reducible repeat (first | refine blk_drewN ?_ _ | refine blk_drew ?_ | refine blk_alloc ?_ _)); exact BK216.out⟩, ⟨by (with_reducible repeat (first | refine blk_drewN ?_ _ | refine blk_drew ?_ | refine blk_alloc ?_ _)); exact BK225.out⟩, ⟨by repeat (first | (with_reducible first | exact HB.out | apply below_alloc | apply pw_below_drewN | apply below_drew1 | refine below_set ?_ GE210.out | refine below_set ?_ GE216.out | refine below_set ?_ GE225.out) | exact HB.out)⟩⟩
             ·replace c51 := Bool.eq_false_iff.mpr c51
              subst c51
              have H1 : ((linkhouseref7_At.f 3 x16_3).bind fun bt238 => (lawMatches.l0 kj41 l0 a1 l2 l3 t205 t211 x14_3 x15_3 (wrap64 (x16_3 + 1)) t208 t209 t214 t215 bt238.1 bt238.2)) = some r := by rw [if_neg (show ¬ (false = true) by decide)] at H; exact H
              clear H
              have H := H1
              clear H1
              replace H := Option.bind_eq_some_iff.mp H
              obtain ⟨⟨t238, t239⟩, A570, H⟩ := H
              replace H : (lawMatches.l0 kj41 l0 a1 l2 l3 t205 t211 x14_3 x15_3 (wrap64 (x16_3 + 1)) t208 t209 t214 t215 t238 t239) = some r := H
              have A57 := Aside0.mk A570
              clear A570
              have H' := Aside0.mk H
              clear H
              have p231 : 0 ≤ (x16_3 : Int) := of_decide_eq_true (by first | (with_reducible assumption) | assumption)
              have q231 : x16_3 < (l0.length : Int) := of_decide_eq_true (by first | (with_reducible assumption) | assumption)
              obtain ⟨ad231, e231, hx231_0, hx231_1, hx231_2⟩ := at_T30 HR0.out x16_3 p231 q231
              cases e231
              replace hx231_0 := (HB.out.cell (World.block_lt_of_cell? w _ hx231_0)).trans hx231_0
              replace hx231_1 := (HB.out.cell (World.block_lt_of_cell? w _ hx231_1)).trans hx231_1
              replace hx231_2 := (HB.out.cell (World.block_lt_of_cell? w _ hx231_2)).trans hx231_2
              replace p231 := eq_true p231
              replace q231 := eq_true q231
              go_wp2_with (first | ((with_reducible refine gate_callee (f := 14) rfl ?_); refine goesL_ (some 66) rfl rfl Try.func14 (by kernel_rfl) rfl #[.int .i64 ((rd_T30 l0 x16_3).f1), .int .i64 (-1), .int .i64 1048575] rfl (by (try simp only [List.map_toArray, List.map_cons, List.map_nil]); first | done | rfl | (simp only [List.length_drop, List.length_take]; rfl)) ?_; (with_reducible refine (linkhouseref7_In.calls ((rd_T30 l0 x16_3).f1) (-1) 1048575 false _ A50.out).mono ?_); rintro e w' ⟨rfl, ⟨nd, rfl⟩⟩; refine ⟨_, rfl, ?_⟩; (try (rw [drewN_self wc]; generalize hq_ : World.drewN wc _ = wc; have n0_ : Aside0 (Kd.R k32 32 wc w.heap.size (fun k_ => some k_ ≠ (u14 : Value).ownBlock ∧ some k_ ≠ (v206 : Value).ownBlock) v212 t211) := ⟨by rw [← hq_]; exact (by (with_reducible repeat (first | apply Kd.R_alloc | apply Kd.R_drewN | apply Kd.R_drew)); exact Kd.R_mono HO_11.out (fun _ hk => ⟨hk.2, hk.1⟩))⟩; have n1_ : Aside0 (Kd.R k32 32 wc w.heap.size (fun k_ => some k_ ≠ (v212 : Value).ownBlock ∧ some k_ ≠ (v206 : Value).ownBlock) u14 x14_3) := ⟨by rw [← hq_]; exact (by (with_reducible repeat (first | apply Kd.R_alloc | apply Kd.R_drewN | apply Kd.R_drew)); exact Kd.R_mono HO_14.out (fun _ hk => ⟨hk.2, hk.1⟩))⟩; have n2_ : Aside0 (Kd.R k32 32 wc w.heap.size (fun k_ => some k_ ≠ (v212 : Value).ownBlock ∧ some k_ ≠ (u14 : Value).ownBlock) v206 t205) := ⟨by rw [← hq_]; exact (by (with_reducible repeat (first | apply Kd.R_alloc | apply Kd.R_drewN | apply Kd.R_drew)); exact HO_9.out)⟩; have n3_ : Aside0 (wc.heap[gb210]? = some (.cells #[.int .i64 t208, .int .i64 t209] 25 (0, 0))) := ⟨by rw [← hq_]; exact (by (with_reducible repeat (first | refine blk_drewN ?_ _ | refine blk_drew ?_ | refine blk_alloc ?_ _)); exact BK210.out)⟩; have n4_ : Aside0 (wc.heap[gb216]? = some (.cells #[.int .i64 t214, .int .i64 t215] 25 (0, 0))) := ⟨by rw [← hq_]; exact (by (with_reducible repeat (first | refine blk_drewN ?_ _ | refine blk_drew ?_ | refine blk_alloc ?_ _)); exact BK216.out)⟩; have n5_ : Aside0 (wc.heap[gb225]? = some (.cells #[.int .i64 x226000_3, .int .i64 x226001_3] 25 (0, 0))) := ⟨by rw [← hq_]; exact (by (with_reducible repeat (first | refine blk_drewN ?_ _ | refine blk_drew ?_ | refine blk_alloc ?_ _)); exact BK225.out)⟩; have n6_ : Aside0 (Below w.heap.size w wc) := ⟨by rw [← hq_]; exact (by repeat (first | (with_reducible first | exact HB.out | apply below_alloc | apply pw_below_drewN | apply below_drew1 | refine below_set ?_ GE210.out | refine below_set ?_ GE216.out | refine below_set ?_ GE225.out) | exact HB.out))⟩; clear HO_11 HO_14 HO_9 BK210 BK216 BK225 HB hq_; have HO_11 := n0_; have HO_14 := n1_; have HO_9 := n2_; have BK210 := n3_; have BK216 := n4_; have BK225 := n5_; have HB := n6_; clear n0_ n1_ n2_ n3_ n4_ n5_ n6_))) | ((with_reducible refine gate_callee (f := 13) rfl ?_); refine goesL_ (some 69) rfl rfl Try.func13 (by kernel_rfl) rfl #[.int .i64 3, .int .i64 x16_3] rfl (by (try simp only [List.map_toArray, List.map_cons, List.map_nil]); first | done | rfl | (simp only [List.length_drop, List.length_take]; rfl)) ?_; (with_reducible refine (linkhouseref7_At.calls 3 x16_3 t238 t239 _ A57.out).mono ?_); rintro e w58 ⟨rfl, hb⟩; refine ⟨_, rfl, ?_⟩; have n0_ := Aside0.mk (Kd.R_below (by (with_reducible repeat (first | apply Kd.R_alloc | apply Kd.R_drewN | apply Kd.R_drew)); exact HO_9.out) hb); have n1_ := Aside0.mk (Kd.R_below (by (with_reducible repeat (first | apply Kd.R_alloc | apply Kd.R_drewN | apply Kd.R_drew)); exact HO_11.out) hb); have n2_ := Aside0.mk (Kd.R_below (by (with_reducible repeat (first | apply Kd.R_alloc | apply Kd.R_drewN | apply Kd.R_drew)); exact HO_14.out) hb); have n3_ := Aside0.mk (blk_below (g := gb210) (o := .cells #[.int .i64 t208, .int .i64 t209] 25 (0, 0)) (by (with_reducible repeat (first | refine blk_drewN ?_ _ | refine blk_drew ?_ | refine blk_alloc ?_ _)); exact BK210.out) hb); have n4_ := Aside0.mk (blk_below (g := gb216) (o := .cells #[.int .i64 t214, .int .i64 t215] 25 (0, 0)) (by (with_reducible repeat (first | refine blk_drewN ?_ _ | refine blk_drew ?_ | refine blk_alloc ?_ _)); exact BK216.out) hb); have n5_ := Aside0.mk (blk_below (g := gb225) (o := .cells #[.int .i64 x226000_3, .int .i64 x226001_3] 25 (0, 0)) (by (with_reducible repeat (first | refine blk_drewN ?_ _ | refine blk_drew ?_ | refine blk_alloc ?_ _)); exact BK225.out) hb); have n6_ := Aside0.mk (below_step (by repeat (first | (with_reducible first | exact HB.out | apply below_alloc | apply pw_below_drewN | apply below_drew1 | refine below_set ?_ GE210.out | refine below_set ?_ GE216.out | refine below_set ?_ GE225.out) | exact HB.out)) hb); clear HO_9; clear HO_11; clear HO_14; clear BK210; clear BK216; clear BK225; clear HB; have HO_9 := n0_; have HO_11 := n1_; have HO_14 := n2_; have BK210 := n3_; have BK216 := n4_; have BK225 := n5_; have HB := n6_; clear n0_ n1_ n2_ n3_ n4_ n5_ n6_; (try clear hb); (try clear hb2); (try clear hk); (try clear hi); have hnb59 := NB225_210.out; have hnc59 := NB210_225.out; have hnb60 := NB225_216.out; have hnc60 := NB216_225.out; have hcz61_0 : w58.cell? ⟨gb225, 0, none⟩ = some (.int .i64 x226000_3) := (blk_cell BK225.out 0).trans rfl; have hcz61_1 : w58.cell? ⟨gb225, 1, none⟩ = some (.int .i64 x226001_3) := (blk_cell BK225.out 1).trans rfl; have hfz61_0 := blk_frozen BK225.out 0; have hfz61_1 := blk_frozen BK225.out 1))
              go_roundg kj41
              case measure => have := HJ6.out; have := HJ26.out; have := HK3.out; have := HJ41.out; omega
              case rel => exact ⟨(x14_3), (x15_3), (wrap64 (x16_3 + 1)), (t238), (t239), (by first | rfl | (simp; done) | (simp [*]; done)), (by first | rfl | (simp; done) | (simp [*]; done)), H', ⟨by have := HJ6.out; have := HJ26.out; have := HK3.out; have := HJ41.out; omega⟩, ⟨by (with_reducible repeat (first | apply Kd.R_alloc | apply Kd.R_drewN | apply Kd.R_drew)); exact Kd.R_mono (xR2 HO_9.out BK225.out (by decide) (.int .i64 t238) (.int .i64 t239)) (fun _ hk => by first | exact ⟨hk.1.1, hk.1.2⟩ | exact ⟨hk.1.2, hk.1.1⟩)⟩, ⟨by (with_reducible repeat (first | apply Kd.R_alloc | apply Kd.R_drewN | apply Kd.R_drew)); exact Kd.R_mono (xR2 HO_11.out BK225.out (by decide) (.int .i64 t238) (.int .i64 t239)) (fun _ hk => by first | exact ⟨hk.1.1, hk.1.2⟩ | exact ⟨hk.1.2, hk.1.1⟩)⟩, ⟨by (with_reducible repeat (first | apply Kd.R_alloc | apply Kd.R_drewN | apply Kd.R_drew)); exact Kd.R_mono (xR2 HO_14.out BK225.out (by decide) (.int .i64 t238) (.int .i64 t239)) (fun _ hk => by first | exact ⟨hk.1.1, hk.1.2⟩ | exact ⟨hk.1.2, hk.1.1⟩)⟩, ⟨by (with_reducible repeat (first | refine blk_drewN ?_ _ | refine blk_drew ?_ | refine blk_alloc ?_ _)); refine blk_far ?_ NB210_225.out _; refine blk_far ?_ NB210_225.out _; (with_reducible repeat (first | refine blk_drewN ?_ _ | refine blk_drew ?_ | refine blk_alloc ?_ _)); exact BK210.out⟩, ⟨by (with_reducible repeat (first | refine blk_drewN ?_ _ | refine blk_drew ?_ | refine blk_alloc ?_ _)); refine blk_far ?_ NB216_225.out _; refine blk_far ?_ NB216_225.out _; (with_reducible repeat (first | refine blk_drewN ?_ _ | refine blk_drew ?_ | refine blk_alloc ?_ _)); exact BK216.out⟩, ⟨by (with_reducible repeat (first | refine blk_drewN ?_ _ | refine blk_drew ?_ | refine blk_alloc ?_ _)); refine blk_put (cs := #[.int .i64 t238, .int .i64 x226001_3]) ?_ 1 _ rfl; (with_reducible repeat (first | refine blk_drewN ?_ _ | refine blk_drew ?_ | refine blk_alloc ?_ _)); refine blk_put (cs := #[.int .i64 x226000_3, .int .i64 x226001_3]) ?_ 0 _ rfl; (with_reducible repeat (first | refine blk_drewN ?_ _ | refine blk_drew ?_ | refine blk_alloc ?_ _)); exact BK225.out⟩, ⟨by repeat (first | (with_reducible first | exact HB.out | apply below_alloc | apply pw_below_drewN | apply below_drew1 | refine below_set ?_ GE210.out | refine below_set ?_ GE216.out | refine below_set ?_ GE225.out) | exact HB.out)⟩⟩
            ·rw [if_neg c49] at H
             exact absurd H (by simp)
           ·rw [if_neg c48] at H
            exact absurd H (by simp)
          ·replace c47 := Bool.eq_false_iff.mpr c47
           subst c47
           have H1 : ((linkhouseref8_Profile.f kj41 x14_3).bind fun t240 => (if x226000_3 = 0 then (lawMatches.j4 kj41 l2 l3 t205 t211 t240 (decide ((t240.length : Int) > 200)) t208 t209 t214 t215 x226000_3 x226001_3) else (lawMatches.j4 kj41 l2 l3 t205 t211 t240 false t208 t209 t214 t215 x226000_3 x226001_3))) = some r := by rw [if_neg (show ¬ (false = true) by decide)] at H; exact H
           clear H
           have H := H1
           clear H1
           replace H := Option.bind_eq_some_iff.mp H
           obtain ⟨t240, A620, H⟩ := H
           replace H : (if x226000_3 = 0 then (lawMatches.j4 kj41 l2 l3 t205 t211 t240 (decide ((t240.length : Int) > 200)) t208 t209 t214 t215 x226000_3 x226001_3) else (lawMatches.j4 kj41 l2 l3 t205 t211 t240 false t208 t209 t214 t215 x226000_3 x226001_3)) = some r := H
           have A62 := Aside0.mk A620
           clear A620
           have HC63 := Aside0.mk H
           clear H
           obtain ⟨Ao64, co64, eo64⟩ := Kd.R_slice HO_14.out
           subst eo64
           go_upto_region 22 with (first | ((with_reducible refine gate_callee (f := 15) rfl ?_); refine goesL_ (some 92) rfl rfl Try.func15 (by kernel_rfl) rfl #[.slice Ao64 x14_3.length co64] rfl (by (try simp only [List.map_toArray, List.map_cons, List.map_nil]); first | done | rfl | (simp only [List.length_drop, List.length_take]; rfl)) ?_; (with_reducible refine (linkhouseref8_Profile.calls kj41 _ _ x14_3 t240 _ ?side1 ?side2 A62.out).mono ?_); (case side1 => repeat (first | exact (Kd.R_reads' HO_14.out).2.2 | (with_reducible refine Kd.C_alloc ?_ _) | (with_reducible refine Kd.C_drewN ?_ _) | (with_reducible refine Kd.C_drew ?_))); (case side2 => exact (Kd.R_reads' HO_14.out).2.1); rintro e w65 ⟨v241, rfl, ho0, hb⟩; refine ⟨_, rfl, ?_⟩; have n0_ := Aside0.mk (Kd.R_elder' (by (with_reducible repeat (first | apply Kd.R_alloc | apply Kd.R_drewN | apply Kd.R_drew)); exact HO_9.out) (Kd.R_base ho0) hb); have n1_ := Aside0.mk (Kd.R_elder' (by (with_reducible repeat (first | apply Kd.R_alloc | apply Kd.R_drewN | apply Kd.R_drew)); exact HO_11.out) (Kd.R_base ho0) hb); have n2_ := Aside0.mk (Kd.R_elder' (by (with_reducible repeat (first | apply Kd.R_alloc | apply Kd.R_drewN | apply Kd.R_drew)); exact HO_14.out) (Kd.R_base ho0) hb); have n3_ := Aside0.mk (Kd.R_lower (Kd.R_new' (Kd.R_new' (Kd.R_new' ho0 (Kd.R_lt (by (with_reducible repeat (first | apply Kd.R_alloc | apply Kd.R_drewN | apply Kd.R_drew)); exact HO_9.out))) (Kd.R_lt (by (with_reducible repeat (first | apply Kd.R_alloc | apply Kd.R_drewN | apply Kd.R_drew)); exact HO_11.out))) (Kd.R_lt (by (with_reducible repeat (first | apply Kd.R_alloc | apply Kd.R_drewN | apply Kd.R_drew)); exact HO_14.out))) (below_size (by repeat (first | (with_reducible first | exact HB.out | apply below_alloc | apply pw_below_drewN | apply below_drew1 | refine below_set ?_ GE210.out | refine below_set ?_ GE216.out | refine below_set ?_ GE225.out) | exact HB.out)))); have n4_ := Aside0.mk (blk_below (g := gb210) (o := .cells #[.int .i64 t208, .int .i64 t209] 25 (0, 0)) (by (with_reducible repeat (first | refine blk_drewN ?_ _ | refine blk_drew ?_ | refine blk_alloc ?_ _)); exact BK210.out) hb); have n5_ := Aside0.mk (blk_below (g := gb216) (o := .cells #[.int .i64 t214, .int .i64 t215] 25 (0, 0)) (by (with_reducible repeat (first | refine blk_drewN ?_ _ | refine blk_drew ?_ | refine blk_alloc ?_ _)); exact BK216.out) hb); have n6_ := Aside0.mk (blk_below (g := gb225) (o := .cells #[.int .i64 x226000_3, .int .i64 x226001_3] 25 (0, 0)) (by (with_reducible repeat (first | refine blk_drewN ?_ _ | refine blk_drew ?_ | refine blk_alloc ?_ _)); exact BK225.out) hb); have n7_ := Aside0.mk (below_step (by repeat (first | (with_reducible first | exact HB.out | apply below_alloc | apply pw_below_drewN | apply below_drew1 | refine below_set ?_ GE210.out | refine below_set ?_ GE216.out | refine below_set ?_ GE225.out) | exact HB.out)) hb); clear HO_9; clear HO_11; clear HO_14; clear BK210; clear BK216; clear BK225; clear HB; have HO_9 := n0_; have HO_11 := n1_; have HO_14 := n2_; have HO242 := n3_; have BK210 := n4_; have BK216 := n5_; have BK225 := n6_; have HB := n7_; clear n0_ n1_ n2_ n3_ n4_ n5_ n6_ n7_; (try clear hb); (try clear hb2); (try clear hk); (try clear hi); (try clear ho0)))
           (try simp only [Act.put, List.setIfInBounds_toArray, List.set_cons_zero, List.set_cons_succ])
           go_cut [100] (fun v100 wc => ∃ (kq : Nat) (x100_62 : Bool), v100 = .bool x100_62 ∧ Aside0 (lawMatches.j4 kq l2 l3 t205 t211 t240 x100_62 t208 t209 t214 t215 x226000_3 x226001_3 = some r) ∧ Aside0 (kq ≤ kj41) ∧ Aside0 (Kd.R k32 32 wc w.heap.size (fun k_ => some k_ ≠ (v212 : Value).ownBlock ∧ some k_ ≠ (v241 : Value).ownBlock) v206 t205) ∧ Aside0 (Kd.R k32 32 wc w.heap.size (fun k_ => some k_ ≠ (v206 : Value).ownBlock ∧ some k_ ≠ (v241 : Value).ownBlock) v212 t211) ∧ Aside0 (Kd.R k32 32 wc w.heap.size (fun k_ => some k_ ≠ (v206 : Value).ownBlock ∧ some k_ ≠ (v212 : Value).ownBlock) v241 t240) ∧ Aside0 (wc.heap[gb210]? = some (.cells #[.int .i64 t208, .int .i64 t209] 25 (0, 0))) ∧ Aside0 (wc.heap[gb216]? = some (.cells #[.int .i64 t214, .int .i64 t215] 25 (0, 0))) ∧ Aside0 (wc.heap[gb225]? = some (.cells #[.int .i64 x226000_3, .int .i64 x226001_3] 25 (0, 0))) ∧ Aside0 (Below w.heap.size w wc))
           case first => as_aux_lemma =>
            have H := HC63.out
            clear HC63
            by_cases c66 : x226000_3 = 0
            ·rw [if_pos c66] at H
             have c66b0 : (x226000_3 == 0) = true := beq_iff_eq.mpr c66
             have c66b1 : (x226000_3 != 0) = false := bne_eq_false_iff_eq.mpr c66
             clear c66
             (first | rw [c66b0] | (simp only [i64_w, i32_w]; rw [c66b0]) | skip)
             have H' := Aside0.mk H
             clear H
             have hnb67 := NB225_210.out
             have hnc67 := NB210_225.out
             have hnb68 := NB225_216.out
             have hnc68 := NB216_225.out
             have hcz69_0 : w65.cell? ⟨gb225, 0, none⟩ = some (.int .i64 x226000_3) := (blk_cell BK225.out 0).trans rfl
             have hcz69_1 : w65.cell? ⟨gb225, 1, none⟩ = some (.int .i64 x226001_3) := (blk_cell BK225.out 1).trans rfl
             have hfz69_0 := blk_frozen BK225.out 0
             have hfz69_1 := blk_frozen BK225.out 1
             obtain ⟨Ao70, co70, eo70⟩ := Kd.R_slice HO242.out
             subst eo70
             go_wp2
             go_meet
             case rel => exact ⟨_, (decide ((t240.length : Int) > 200)), (by first | rfl | (simp; done) | (simp [*]; done)), H', ⟨by have := HJ6.out; have := HJ26.out; have := HK3.out; have := HJ41.out; first | omega | exact Nat.le_refl _⟩, ⟨by (with_reducible repeat (first | apply Kd.R_alloc | apply Kd.R_drewN | apply Kd.R_drew)); exact Kd.R_mono HO_9.out (fun _ hk => ⟨hk.1.1, hk.2⟩)⟩, ⟨by (with_reducible repeat (first | apply Kd.R_alloc | apply Kd.R_drewN | apply Kd.R_drew)); exact Kd.R_mono HO_11.out (fun _ hk => ⟨hk.1.1, hk.2⟩)⟩, ⟨by (with_reducible repeat (first | apply Kd.R_alloc | apply Kd.R_drewN | apply Kd.R_drew)); exact Kd.R_mono HO242.out (fun _ hk => ⟨hk.1.1.2, hk.1.2⟩)⟩, ⟨by (with_reducible repeat (first | refine blk_drewN ?_ _ | refine blk_drew ?_ | refine blk_alloc ?_ _)); exact BK210.out⟩, ⟨by (with_reducible repeat (first | refine blk_drewN ?_ _ | refine blk_drew ?_ | refine blk_alloc ?_ _)); exact BK216.out⟩, ⟨by (with_reducible repeat (first | refine blk_drewN ?_ _ | refine blk_drew ?_ | refine blk_alloc ?_ _)); exact BK225.out⟩, ⟨by repeat (first | (with_reducible first | exact HB.out | apply below_alloc | apply pw_below_drewN | apply below_drew1 | refine below_set ?_ GE210.out | refine below_set ?_ GE216.out | refine below_set ?_ GE225.out) | exact HB.out)⟩⟩
            ·rw [if_neg c66] at H
             have c66b0 : (x226000_3 == 0) = false := beq_eq_false_iff_ne.mpr c66
             have c66b1 : (x226000_3 != 0) = true := bne_iff_ne.mpr c66
             (first | rw [c66b0] | (simp only [i64_w, i32_w]; rw [c66b0]) | skip)
             have H' := Aside0.mk H
             clear H
             have hnb71 := NB225_210.out
             have hnc71 := NB210_225.out
             have hnb72 := NB225_216.out
             have hnc72 := NB216_225.out
             have hcz73_0 : w65.cell? ⟨gb225, 0, none⟩ = some (.int .i64 x226000_3) := (blk_cell BK225.out 0).trans rfl
             have hcz73_1 : w65.cell? ⟨gb225, 1, none⟩ = some (.int .i64 x226001_3) := (blk_cell BK225.out 1).trans rfl
             have hfz73_0 := blk_frozen BK225.out 0
             have hfz73_1 := blk_frozen BK225.out 1
             go_wp2
             go_meet
             case rel => exact ⟨_, (false), (by first | rfl | (simp; done) | (simp [*]; done)), H', ⟨by have := HJ6.out; have := HJ26.out; have := HK3.out; have := HJ41.out; first | omega | exact Nat.le_refl _⟩, ⟨by (with_reducible repeat (first | apply Kd.R_alloc | apply Kd.R_drewN | apply Kd.R_drew)); exact Kd.R_mono HO_9.out (fun _ hk => ⟨hk.1.1, hk.2⟩)⟩, ⟨by (with_reducible repeat (first | apply Kd.R_alloc | apply Kd.R_drewN | apply Kd.R_drew)); exact Kd.R_mono HO_11.out (fun _ hk => ⟨hk.1.1, hk.2⟩)⟩, ⟨by (with_reducible repeat (first | apply Kd.R_alloc | apply Kd.R_drewN | apply Kd.R_drew)); exact Kd.R_mono HO242.out (fun _ hk => ⟨hk.1.1.2, hk.1.2⟩)⟩, ⟨by (with_reducible repeat (first | refine blk_drewN ?_ _ | refine blk_drew ?_ | refine blk_alloc ?_ _)); exact BK210.out⟩, ⟨by (with_reducible repeat (first | refine blk_drewN ?_ _ | refine blk_drew ?_ | refine blk_alloc ?_ _)); exact BK216.out⟩, ⟨by (with_reducible repeat (first | refine blk_drewN ?_ _ | refine blk_drew ?_ | refine blk_alloc ?_ _)); exact BK225.out⟩, ⟨by repeat (first | (with_reducible first | exact HB.out | apply below_alloc | apply pw_below_drewN | apply below_drew1 | refine below_set ?_ GE210.out | refine below_set ?_ GE216.out | refine below_set ?_ GE225.out) | exact HB.out)⟩⟩
           case rest => as_aux_lemma =>
            clear HC63
            (try clear c1); (try clear c2); (try clear p2); (try clear q2); (try clear hx2); (try clear c3); (try clear c4); (try clear c5); (try clear c6); (try clear p6); (try clear c7); (try clear c8); (try clear c10); (try clear c11); (try clear c12); (try clear c13); (try clear c14); (try clear c15); (try clear c17); (try clear c17b0); (try clear p23); (try clear q23); (try clear hx23); (try clear c26); (try clear c29); (try clear c29b0); (try clear c29b1); (try clear c32); (try clear c33); (try clear c36); (try clear c39); (try clear c40); (try clear c43); (try clear c43b0); (try clear c44); (try clear c45); (try clear c47); (try clear c48); (try clear c48b0); (try clear c49); (try clear c49b0); (try clear c51); (try clear c52); (try clear c52b0); (try clear c53); (try clear c53b0); (try clear c53b1); (try clear c54); (try clear c54b0); (try clear c54b1); (try clear c55); (try clear c59); (try clear c60); (try clear p64); (try clear c66); (try clear c66b0); (try clear c66b1); (try clear c67); (try clear c68); (try clear c71); (try clear c72); (try clear hcz10_0); (try clear hcz10_1); (try clear hcz14_0); (try clear hcz14_1); (try clear hcz34_0); (try clear hcz34_1); (try clear hcz41_0); (try clear hcz41_1); (try clear hcz46_0); (try clear hcz46_1); (try clear hcz61_0); (try clear hcz61_1); (try clear hcz69_0); (try clear hcz69_1); (try clear hcz73_0); (try clear hcz73_1); (try clear hfz10_0); (try clear hfz10_1); (try clear hfz14_0); (try clear hfz14_1); (try clear hfz34_0); (try clear hfz34_1); (try clear hfz41_0); (try clear hfz41_1); (try clear hfz46_0); (try clear hfz46_1); (try clear hfz61_0); (try clear hfz61_1); (try clear hfz69_0); (try clear hfz69_1); (try clear hfz73_0); (try clear hfz73_1); (try clear hx231_0); (try clear hx231_1); (try clear hx231_2); (try clear hx233_0); (try clear hx233_1); (try clear hx233_2); (try clear hx234_0); (try clear hx234_1); (try clear hx234_2); (try clear p2); (try clear p231); (try clear p233); (try clear p234); (try clear q231); (try clear q233); (try clear q234)
            obtain ⟨kq, x100_62, rfl, HA, HJ62, HO_9, HO_11, HO_17, BK210, BK216, BK225, HB⟩ := hcut
            cases kq with
            | zero => exact absurd HA.out (by simp [lawMatches.j4])
            | succ kj62 =>
             have H := HA.out
             clear HA
             simp only [lawMatches.j4] at H
             have HC74 := Aside0.mk H
             clear H
             go_upto_if 100 with (fail)
             go_cut [] (fun wc => ∃ (kq : Nat) (x226000_73 : Int) (x226001_73 : Int), Aside0 (lawMatches.j5 kq l2 l3 t205 t211 t240 t208 t209 t214 t215 x226000_73 x226001_73 = some r) ∧ Aside0 (kq ≤ kj62) ∧ Aside0 (Kd.R k32 32 wc w.heap.size (fun k_ => some k_ ≠ (v212 : Value).ownBlock ∧ some k_ ≠ (v241 : Value).ownBlock) v206 t205) ∧ Aside0 (Kd.R k32 32 wc w.heap.size (fun k_ => some k_ ≠ (v206 : Value).ownBlock ∧ some k_ ≠ (v241 : Value).ownBlock) v212 t211) ∧ Aside0 (Kd.R k32 32 wc w.heap.size (fun k_ => some k_ ≠ (v206 : Value).ownBlock ∧ some k_ ≠ (v212 : Value).ownBlock) v241 t240) ∧ Aside0 (wc.heap[gb210]? = some (.cells #[.int .i64 t208, .int .i64 t209] 25 (0, 0))) ∧ Aside0 (wc.heap[gb216]? = some (.cells #[.int .i64 t214, .int .i64 t215] 25 (0, 0))) ∧ Aside0 (wc.heap[gb225]? = some (.cells #[.int .i64 x226000_73, .int .i64 x226001_73] 25 (0, 0))) ∧ Aside0 (Below w.heap.size w wc))
             case first => as_aux_lemma =>
              have H := HC74.out
              clear HC74
              by_cases c75 : x100_62 = true
              ·subst c75
               have H1 : ((linkhouseref7_At.f 10 (-3)).bind fun bt243 => (lawMatches.j5 kj62 l2 l3 t205 t211 t240 t208 t209 t214 t215 bt243.1 bt243.2)) = some r := by rw [if_pos rfl] at H; exact H
               clear H
               have H := H1
               clear H1
               replace H := Option.bind_eq_some_iff.mp H
               obtain ⟨⟨t243, t244⟩, A760, H⟩ := H
               replace H : (lawMatches.j5 kj62 l2 l3 t205 t211 t240 t208 t209 t214 t215 t243 t244) = some r := H
               have A76 := Aside0.mk A760
               clear A760
               have H' := Aside0.mk H
               clear H
               go_wp2_with (first | ((with_reducible refine gate_callee (f := 13) rfl ?_); refine goesL_ (some 101) rfl rfl Try.func13 (by kernel_rfl) rfl #[.int .i64 10, .int .i64 (-3)] rfl (by (try simp only [List.map_toArray, List.map_cons, List.map_nil]); first | done | rfl | (simp only [List.length_drop, List.length_take]; rfl)) ?_; (with_reducible refine (linkhouseref7_At.calls 10 (-3) t243 t244 _ A76.out).mono ?_); rintro e w77 ⟨rfl, hb⟩; refine ⟨_, rfl, ?_⟩; have n0_ := Aside0.mk (Kd.R_below (by (with_reducible repeat (first | apply Kd.R_alloc | apply Kd.R_drewN | apply Kd.R_drew)); exact HO_9.out) hb); have n1_ := Aside0.mk (Kd.R_below (by (with_reducible repeat (first | apply Kd.R_alloc | apply Kd.R_drewN | apply Kd.R_drew)); exact HO_11.out) hb); have n2_ := Aside0.mk (Kd.R_below (by (with_reducible repeat (first | apply Kd.R_alloc | apply Kd.R_drewN | apply Kd.R_drew)); exact HO_17.out) hb); have n3_ := Aside0.mk (blk_below (g := gb210) (o := .cells #[.int .i64 t208, .int .i64 t209] 25 (0, 0)) (by (with_reducible repeat (first | refine blk_drewN ?_ _ | refine blk_drew ?_ | refine blk_alloc ?_ _)); exact BK210.out) hb); have n4_ := Aside0.mk (blk_below (g := gb216) (o := .cells #[.int .i64 t214, .int .i64 t215] 25 (0, 0)) (by (with_reducible repeat (first | refine blk_drewN ?_ _ | refine blk_drew ?_ | refine blk_alloc ?_ _)); exact BK216.out) hb); have n5_ := Aside0.mk (blk_below (g := gb225) (o := .cells #[.int .i64 x226000_3, .int .i64 x226001_3] 25 (0, 0)) (by (with_reducible repeat (first | refine blk_drewN ?_ _ | refine blk_drew ?_ | refine blk_alloc ?_ _)); exact BK225.out) hb); have n6_ := Aside0.mk (below_step (by repeat (first | (with_reducible first | exact HB.out | apply below_alloc | apply pw_below_drewN | apply below_drew1 | refine below_set ?_ GE210.out | refine below_set ?_ GE216.out | refine below_set ?_ GE225.out) | exact HB.out)) hb); clear HO_9; clear HO_11; clear HO_17; clear BK210; clear BK216; clear BK225; clear HB; have HO_9 := n0_; have HO_11 := n1_; have HO_17 := n2_; have BK210 := n3_; have BK216 := n4_; have BK225 := n5_; have HB := n6_; clear n0_ n1_ n2_ n3_ n4_ n5_ n6_; (try clear hb); (try clear hb2); (try clear hk); (try clear hi); have hnb78 := NB225_210.out; have hnc78 := NB210_225.out; have hnb79 := NB225_216.out; have hnc79 := NB216_225.out; have hcz80_0 : w77.cell? ⟨gb225, 0, none⟩ = some (.int .i64 x226000_3) := (blk_cell BK225.out 0).trans rfl; have hcz80_1 : w77.cell? ⟨gb225, 1, none⟩ = some (.int .i64 x226001_3) := (blk_cell BK225.out 1).trans rfl; have hfz80_0 := blk_frozen BK225.out 0; have hfz80_1 := blk_frozen BK225.out 1))
               go_meet
               case rel => exact ⟨_, (t243), (t244), H', ⟨by have := HJ6.out; have := HJ26.out; have := HK3.out; have := HJ41.out; have := HJ62.out; first | omega | exact Nat.le_refl _⟩, ⟨by (with_reducible repeat (first | apply Kd.R_alloc | apply Kd.R_drewN | apply Kd.R_drew)); exact Kd.R_mono (xR2 HO_9.out BK225.out (by decide) (.int .i64 t243) (.int .i64 t244)) (fun _ hk => by first | exact ⟨hk.1.1, hk.1.2⟩ | exact ⟨hk.1.2, hk.1.1⟩)⟩, ⟨by (with_reducible repeat (first | apply Kd.R_alloc | apply Kd.R_drewN | apply Kd.R_drew)); exact Kd.R_mono (xR2 HO_11.out BK225.out (by decide) (.int .i64 t243) (.int .i64 t244)) (fun _ hk => by first | exact ⟨hk.1.1, hk.1.2⟩ | exact ⟨hk.1.2, hk.1.1⟩)⟩, ⟨by (with_reducible repeat (first | apply Kd.R_alloc | apply Kd.R_drewN | apply Kd.R_drew)); exact Kd.R_mono (xR2 HO_17.out BK225.out (by decide) (.int .i64 t243) (.int .i64 t244)) (fun _ hk => by first | exact ⟨hk.1.1, hk.1.2⟩ | exact ⟨hk.1.2, hk.1.1⟩)⟩, ⟨by (with_reducible repeat (first | refine blk_drewN ?_ _ | refine blk_drew ?_ | refine blk_alloc ?_ _)); refine blk_far ?_ NB210_225.out _; refine blk_far ?_ NB210_225.out _; (with_reducible repeat (first | refine blk_drewN ?_ _ | refine blk_drew ?_ | refine blk_alloc ?_ _)); exact BK210.out⟩, ⟨by (with_reducible repeat (first | refine blk_drewN ?_ _ | refine blk_drew ?_ | refine blk_alloc ?_ _)); refine blk_far ?_ NB216_225.out _; refine blk_far ?_ NB216_225.out _; (with_reducible repeat (first | refine blk_drewN ?_ _ | refine blk_drew ?_ | refine blk_alloc ?_ _)); exact BK216.out⟩, ⟨by (with_reducible repeat (first | refine blk_drewN ?_ _ | refine blk_drew ?_ | refine blk_alloc ?_ _)); refine blk_put (cs := #[.int .i64 t243, .int .i64 x226001_3]) ?_ 1 _ rfl; (with_reducible repeat (first | refine blk_drewN ?_ _ | refine blk_drew ?_ | refine blk_alloc ?_ _)); refine blk_put (cs := #[.int .i64 x226000_3, .int .i64 x226001_3]) ?_ 0 _ rfl; (with_reducible repeat (first | refine blk_drewN ?_ _ | refine blk_drew ?_ | refine blk_alloc ?_ _)); exact BK225.out⟩, ⟨by repeat (first | (with_reducible first | exact HB.out | apply below_alloc | apply pw_below_drewN | apply below_drew1 | refine below_set ?_ GE210.out | refine below_set ?_ GE216.out | refine below_set ?_ GE225.out) | exact HB.out)⟩⟩
              ·replace c75 := Bool.eq_false_iff.mpr c75
               subst c75
               have H1 : (lawMatches.j5 kj62 l2 l3 t205 t211 t240 t208 t209 t214 t215 x226000_3 x226001_3) = some r := by rw [if_neg (show ¬ (false = true) by decide)] at H; exact H
               clear H
               have H := H1
               clear H1
               have H' := Aside0.mk H
               clear H
               go_wp2
               go_meet
               case rel => exact ⟨_, (x226000_3), (x226001_3), H', ⟨by have := HJ6.out; have := HJ26.out; have := HK3.out; have := HJ41.out; have := HJ62.out; first | omega | exact Nat.le_refl _⟩, ⟨by (with_reducible repeat (first | apply Kd.R_alloc | apply Kd.R_drewN | apply Kd.R_drew)); exact HO_9.out⟩, ⟨by (with_reducible repeat (first | apply Kd.R_alloc | apply Kd.R_drewN | apply Kd.R_drew)); exact HO_11.out⟩, ⟨by (with_reducible repeat (first | apply Kd.R_alloc | apply Kd.R_drewN | apply Kd.R_drew)); exact HO_17.out⟩, ⟨by (with_reducible repeat (first | refine blk_drewN ?_ _ | refine blk_drew ?_ | refine blk_alloc ?_ _)); exact BK210.out⟩, ⟨by (with_reducible repeat (first | refine blk_drewN ?_ _ | refine blk_drew ?_ | refine blk_alloc ?_ _)); exact BK216.out⟩, ⟨by (with_reducible repeat (first | refine blk_drewN ?_ _ | refine blk_drew ?_ | refine blk_alloc ?_ _)); exact BK225.out⟩, ⟨by repeat (first | (with_reducible first | exact HB.out | apply below_alloc | apply pw_below_drewN | apply below_drew1 | refine below_set ?_ GE210.out | refine below_set ?_ GE216.out | refine below_set ?_ GE225.out) | exact HB.out)⟩⟩
             case rest => as_aux_lemma =>
              clear HC74
              (try clear c1); (try clear c2); (try clear p2); (try clear q2); (try clear hx2); (try clear c3); (try clear c4); (try clear c5); (try clear c6); (try clear p6); (try clear c7); (try clear c8); (try clear c10); (try clear c11); (try clear c12); (try clear c13); (try clear c14); (try clear c15); (try clear c17); (try clear c17b0); (try clear p23); (try clear q23); (try clear hx23); (try clear c26); (try clear c29); (try clear c29b0); (try clear c29b1); (try clear c32); (try clear c33); (try clear c36); (try clear c39); (try clear c40); (try clear c43); (try clear c43b0); (try clear c44); (try clear c45); (try clear c47); (try clear c48); (try clear c48b0); (try clear c49); (try clear c49b0); (try clear c51); (try clear c52); (try clear c52b0); (try clear c53); (try clear c53b0); (try clear c53b1); (try clear c54); (try clear c54b0); (try clear c54b1); (try clear c55); (try clear c59); (try clear c60); (try clear p64); (try clear c66); (try clear c66b0); (try clear c66b1); (try clear c67); (try clear c68); (try clear c71); (try clear c72); (try clear c75); (try clear c78); (try clear c79); (try clear hcz10_0); (try clear hcz10_1); (try clear hcz14_0); (try clear hcz14_1); (try clear hcz34_0); (try clear hcz34_1); (try clear hcz41_0); (try clear hcz41_1); (try clear hcz46_0); (try clear hcz46_1); (try clear hcz61_0); (try clear hcz61_1); (try clear hcz69_0); (try clear hcz69_1); (try clear hcz73_0); (try clear hcz73_1); (try clear hcz80_0); (try clear hcz80_1); (try clear hfz10_0); (try clear hfz10_1); (try clear hfz14_0); (try clear hfz14_1); (try clear hfz34_0); (try clear hfz34_1); (try clear hfz41_0); (try clear hfz41_1); (try clear hfz46_0); (try clear hfz46_1); (try clear hfz61_0); (try clear hfz61_1); (try clear hfz69_0); (try clear hfz69_1); (try clear hfz73_0); (try clear hfz73_1); (try clear hfz80_0); (try clear hfz80_1); (try clear hx231_0); (try clear hx231_1); (try clear hx231_2); (try clear hx233_0); (try clear hx233_1); (try clear hx233_2); (try clear hx234_0); (try clear hx234_1); (try clear hx234_2); (try clear p2); (try clear p23); (try clear p231); (try clear p233); (try clear p234); (try clear p6); (try clear p64); (try clear q2); (try clear q23); (try clear q231); (try clear q233); (try clear q234)
              obtain ⟨kq, x226000_73, x226001_73, HA, HJ73, HO_9, HO_11, HO_17, BK210, BK216, BK225, HB⟩ := hcut
              cases kq with
              | zero => exact absurd HA.out (by simp [lawMatches.j5])
              | succ kj73 =>
               have H := HA.out
               clear HA
               simp only [lawMatches.j5] at H
               have HC81 := Aside0.mk H
               clear H
               go_upto_region 24 with (fail)
               go_cut [125] (fun v125 wc => ∃ (kq : Nat) (x125_80 : Bool), v125 = .bool x125_80 ∧ Aside0 (lawMatches.j6 kq l2 l3 t211 x125_80 t214 t215 = some r) ∧ Aside0 (kq ≤ kj73) ∧ Aside0 (Kd.R k32 32 wc w.heap.size (fun _ => True) v212 t211) ∧ Aside0 (wc.heap[gb210]? = some (.cells #[.int .i64 t208, .int .i64 t209] 25 (0, 0))) ∧ Aside0 (wc.heap[gb216]? = some (.cells #[.int .i64 t214, .int .i64 t215] 25 (0, 0))) ∧ Aside0 (wc.heap[gb225]? = some (.cells #[.int .i64 x226000_73, .int .i64 x226001_73] 25 (0, 0))) ∧ Aside0 (Below w.heap.size w wc))
               case first => as_aux_lemma =>
                have H := HC81.out
                clear HC81
                by_cases c82 : (!(t208 == x226000_73) || (!(t209 == x226001_73))) = true
                ·rw [if_pos c82] at H
                 have c82b0 : (!(t208 == x226000_73) || (!(t209 == x226001_73))) = true := c82
                 clear c82
                 (first | rw [c82b0] | (simp only [i64_w, i32_w]; rw [c82b0]) | skip)
                 have H' := Aside0.mk H
                 clear H
                 have hnb83 := NB210_216.out
                 have hnc83 := NB216_210.out
                 have hnb84 := NB210_225.out
                 have hnc84 := NB225_210.out
                 have hcz85_0 : wc.cell? ⟨gb210, 0, none⟩ = some (.int .i64 t208) := (blk_cell BK210.out 0).trans rfl
                 have hcz85_1 : wc.cell? ⟨gb210, 1, none⟩ = some (.int .i64 t209) := (blk_cell BK210.out 1).trans rfl
                 have hfz85_0 := blk_frozen BK210.out 0
                 have hfz85_1 := blk_frozen BK210.out 1
                 have hnb86 := NB225_216.out
                 have hnc86 := NB216_225.out
                 have hcz87_0 : wc.cell? ⟨gb225, 0, none⟩ = some (.int .i64 x226000_73) := (blk_cell BK225.out 0).trans rfl
                 have hcz87_1 : wc.cell? ⟨gb225, 1, none⟩ = some (.int .i64 x226001_73) := (blk_cell BK225.out 1).trans rfl
                 have hfz87_0 := blk_frozen BK225.out 0
                 have hfz87_1 := blk_frozen BK225.out 1
                 go_wp2
                 go_meet
                 case rel => exact ⟨_, (true), (by first | rfl | (simp; done) | (simp [*]; done)), H', ⟨by have := HJ6.out; have := HJ26.out; have := HK3.out; have := HJ41.out; have := HJ62.out; have := HJ73.out; first | omega | exact Nat.le_refl _⟩, ⟨by (with_reducible repeat (first | apply Kd.R_alloc | apply Kd.R_drewN | apply Kd.R_drew)); exact Kd.R_mono HO_11.out (fun _ hk => trivial)⟩, ⟨by (with_reducible repeat (first | refine blk_drewN ?_ _ | refine blk_drew ?_ | refine blk_alloc ?_ _)); exact BK210.out⟩, ⟨by (with_reducible repeat (first | refine blk_drewN ?_ _ | refine blk_drew ?_ | refine blk_alloc ?_ _)); exact BK216.out⟩, ⟨by (with_reducible repeat (first | refine blk_drewN ?_ _ | refine blk_drew ?_ | refine blk_alloc ?_ _)); exact BK225.out⟩, ⟨by repeat (first | (with_reducible first | exact HB.out | apply below_alloc | apply pw_below_drewN | apply below_drew1 | refine below_set ?_ GE210.out | refine below_set ?_ GE216.out | refine below_set ?_ GE225.out) | exact HB.out)⟩⟩
                ·rw [if_neg c82] at H
                 have c82b0 : (!(t208 == x226000_73) || (!(t209 == x226001_73))) = false := by simpa using c82
                 clear c82
                 (first | rw [c82b0] | (simp only [i64_w, i32_w]; rw [c82b0]) | skip)
                 by_cases c88 : x226000_73 = 0
                 ·rw [if_pos c88] at H
                  have c88b0 : (x226000_73 == 0) = true := beq_iff_eq.mpr c88
                  have c88b1 : (x226000_73 != 0) = false := bne_eq_false_iff_eq.mpr c88
                  clear c88
                  replace H := Option.bind_eq_some_iff.mp H
                  obtain ⟨t245, A890, H⟩ := H
                  replace H : (lawMatches.j6 kj73 l2 l3 t211 (!t245) t214 t215) = some r := H
                  have A89 := Aside0.mk A890
                  clear A890
                  have H' := Aside0.mk H
                  clear H
                  have hnb90 := NB210_216.out
                  have hnc90 := NB216_210.out
                  have hnb91 := NB210_225.out
                  have hnc91 := NB225_210.out
                  have hcz92_0 : wc.cell? ⟨gb210, 0, none⟩ = some (.int .i64 t208) := (blk_cell BK210.out 0).trans rfl
                  have hcz92_1 : wc.cell? ⟨gb210, 1, none⟩ = some (.int .i64 t209) := (blk_cell BK210.out 1).trans rfl
                  have hfz92_0 := blk_frozen BK210.out 0
                  have hfz92_1 := blk_frozen BK210.out 1
                  have hnb93 := NB225_216.out
                  have hnc93 := NB216_225.out
                  have hcz94_0 : wc.cell? ⟨gb225, 0, none⟩ = some (.int .i64 x226000_73) := (blk_cell BK225.out 0).trans rfl
                  have hcz94_1 : wc.cell? ⟨gb225, 1, none⟩ = some (.int .i64 x226001_73) := (blk_cell BK225.out 1).trans rfl
                  have hfz94_0 := blk_frozen BK225.out 0
                  have hfz94_1 := blk_frozen BK225.out 1
                  obtain ⟨Ao95, co95, eo95⟩ := Kd.R_slice HO_9.out
                  subst eo95
                  obtain ⟨Ao96, co96, eo96⟩ := Kd.R_slice HO_17.out
                  subst eo96
                  go_wp2_with (first | (go_at_call 16; (with_reducible refine (linkhouseref8_SameProfile.calls kj73 _ _ t205 _ _ t240 t245 _ ?side1 ?side2 ?side3 ?side4 A89.out).mono ?_); (case side1 => repeat (first | exact (Kd.R_reads' HO_9.out).2.2 | (with_reducible refine Kd.C_alloc ?_ _) | (with_reducible refine Kd.C_drewN ?_ _) | (with_reducible refine Kd.C_drew ?_))); (case side2 => exact (Kd.R_reads' HO_9.out).2.1); (case side3 => repeat (first | exact (Kd.R_reads' HO_17.out).2.2 | (with_reducible refine Kd.C_alloc ?_ _) | (with_reducible refine Kd.C_drewN ?_ _) | (with_reducible refine Kd.C_drew ?_))); (case side4 => exact (Kd.R_reads' HO_17.out).2.1); rintro e w' ⟨rfl, ⟨nd, rfl⟩⟩))
                  go_meet
                  case rel => exact ⟨_, (!t245), (by first | rfl | (simp; done) | (simp [*]; done)), H', ⟨by have := HJ6.out; have := HJ26.out; have := HK3.out; have := HJ41.out; have := HJ62.out; have := HJ73.out; first | omega | exact Nat.le_refl _⟩, ⟨by (with_reducible repeat (first | apply Kd.R_alloc | apply Kd.R_drewN | apply Kd.R_drew)); exact Kd.R_mono HO_11.out (fun _ hk => trivial)⟩, ⟨by (with_reducible repeat (first | refine blk_drewN ?_ _ | refine blk_drew ?_ | refine blk_alloc ?_ _)); exact BK210.out⟩, ⟨by (with_reducible repeat (first | refine blk_drewN ?_ _ | refine blk_drew ?_ | refine blk_alloc ?_ _)); exact BK216.out⟩, ⟨by (with_reducible repeat (first | refine blk_drewN ?_ _ | refine blk_drew ?_ | refine blk_alloc ?_ _)); exact BK225.out⟩, ⟨by repeat (first | (with_reducible first | exact HB.out | apply below_alloc | apply pw_below_drewN | apply below_drew1 | refine below_set ?_ GE210.out | refine below_set ?_ GE216.out | refine below_set ?_ GE225.out) | exact HB.out)⟩⟩
                 ·rw [if_neg c88] at H
                  have c88b0 : (x226000_73 == 0) = false := beq_eq_false_iff_ne.mpr c88
                  have c88b1 : (x226000_73 != 0) = true := bne_iff_ne.mpr c88
                  by_cases c97 : (t205.length : Int) > 0
                  ·rw [if_pos c97] at H
                   have c97b0 : decide (0 < (t205.length : Int)) = true := decide_eq_true c97
                   have c97b1 : decide (0 < t205.length) = true := decide_eq_true (by omega)
                   clear c97
                   have H' := Aside0.mk H
                   clear H
                   have hnb98 := NB210_216.out
                   have hnc98 := NB216_210.out
                   have hnb99 := NB210_225.out
                   have hnc99 := NB225_210.out
                   have hcz100_0 : wc.cell? ⟨gb210, 0, none⟩ = some (.int .i64 t208) := (blk_cell BK210.out 0).trans rfl
                   have hcz100_1 : wc.cell? ⟨gb210, 1, none⟩ = some (.int .i64 t209) := (blk_cell BK210.out 1).trans rfl
                   have hfz100_0 := blk_frozen BK210.out 0
                   have hfz100_1 := blk_frozen BK210.out 1
                   have hnb101 := NB225_216.out
                   have hnc101 := NB216_225.out
                   have hcz102_0 : wc.cell? ⟨gb225, 0, none⟩ = some (.int .i64 x226000_73) := (blk_cell BK225.out 0).trans rfl
                   have hcz102_1 : wc.cell? ⟨gb225, 1, none⟩ = some (.int .i64 x226001_73) := (blk_cell BK225.out 1).trans rfl
                   have hfz102_0 := blk_frozen BK225.out 0
                   have hfz102_1 := blk_frozen BK225.out 1
                   obtain ⟨Ao103, co103, eo103⟩ := Kd.R_slice HO_9.out
                   subst eo103
                   go_wp2
                   go_meet
                   case rel => exact ⟨_, (true), (by first | rfl | (simp; done) | (simp [*]; done)), H', ⟨by have := HJ6.out; have := HJ26.out; have := HK3.out; have := HJ41.out; have := HJ62.out; have := HJ73.out; first | omega | exact Nat.le_refl _⟩, ⟨by (with_reducible repeat (first | apply Kd.R_alloc | apply Kd.R_drewN | apply Kd.R_drew)); exact Kd.R_mono HO_11.out (fun _ hk => trivial)⟩, ⟨by (with_reducible repeat (first | refine blk_drewN ?_ _ | refine blk_drew ?_ | refine blk_alloc ?_ _)); exact BK210.out⟩, ⟨by (with_reducible repeat (first | refine blk_drewN ?_ _ | refine blk_drew ?_ | refine blk_alloc ?_ _)); exact BK216.out⟩, ⟨by (with_reducible repeat (first | refine blk_drewN ?_ _ | refine blk_drew ?_ | refine blk_alloc ?_ _)); exact BK225.out⟩, ⟨by repeat (first | (with_reducible first | exact HB.out | apply below_alloc | apply pw_below_drewN | apply below_drew1 | refine below_set ?_ GE210.out | refine below_set ?_ GE216.out | refine below_set ?_ GE225.out) | exact HB.out)⟩⟩
                  ·rw [if_neg c97] at H
                   have c97b0 : decide (0 < (t205.length : Int)) = false := decide_eq_false c97
                   have c97b1 : decide (0 < t205.length) = false := decide_eq_false (by omega)
                   clear c97
                   have H' := Aside0.mk H
                   clear H
                   have hnb104 := NB210_216.out
                   have hnc104 := NB216_210.out
                   have hnb105 := NB210_225.out
                   have hnc105 := NB225_210.out
                   have hcz106_0 : wc.cell? ⟨gb210, 0, none⟩ = some (.int .i64 t208) := (blk_cell BK210.out 0).trans rfl
                   have hcz106_1 : wc.cell? ⟨gb210, 1, none⟩ = some (.int .i64 t209) := (blk_cell BK210.out 1).trans rfl
                   have hfz106_0 := blk_frozen BK210.out 0
                   have hfz106_1 := blk_frozen BK210.out 1
                   have hnb107 := NB225_216.out
                   have hnc107 := NB216_225.out
                   have hcz108_0 : wc.cell? ⟨gb225, 0, none⟩ = some (.int .i64 x226000_73) := (blk_cell BK225.out 0).trans rfl
                   have hcz108_1 : wc.cell? ⟨gb225, 1, none⟩ = some (.int .i64 x226001_73) := (blk_cell BK225.out 1).trans rfl
                   have hfz108_0 := blk_frozen BK225.out 0
                   have hfz108_1 := blk_frozen BK225.out 1
                   obtain ⟨Ao109, co109, eo109⟩ := Kd.R_slice HO_9.out
                   subst eo109
                   go_wp2
                   go_meet
                   case rel => exact ⟨_, (false), (by first | rfl | (simp; done) | (simp [*]; done)), H', ⟨by have := HJ6.out; have := HJ26.out; have := HK3.out; have := HJ41.out; have := HJ62.out; have := HJ73.out; first | omega | exact Nat.le_refl _⟩, ⟨by (with_reducible repeat (first | apply Kd.R_alloc | apply Kd.R_drewN | apply Kd.R_drew)); exact Kd.R_mono HO_11.out (fun _ hk => trivial)⟩, ⟨by (with_reducible repeat (first | refine blk_drewN ?_ _ | refine blk_drew ?_ | refine blk_alloc ?_ _)); exact BK210.out⟩, ⟨by (with_reducible repeat (first | refine blk_drewN ?_ _ | refine blk_drew ?_ | refine blk_alloc ?_ _)); exact BK216.out⟩, ⟨by (with_reducible repeat (first | refine blk_drewN ?_ _ | refine blk_drew ?_ | refine blk_alloc ?_ _)); exact BK225.out⟩, ⟨by repeat (first | (with_reducible first | exact HB.out | apply below_alloc | apply pw_below_drewN | apply below_drew1 | refine below_set ?_ GE210.out | refine below_set ?_ GE216.out | refine below_set ?_ GE225.out) | exact HB.out)⟩⟩
               case rest => as_aux_lemma =>
                clear HC81
                (try clear c1); (try clear c2); (try clear p2); (try clear q2); (try clear hx2); (try clear c3); (try clear c4); (try clear c5); (try clear c6); (try clear p6); (try clear c7); (try clear c8); (try clear c9); (try clear c10); (try clear c11); (try clear c12); (try clear c13); (try clear c14); (try clear c15); (try clear c17); (try clear c17b0); (try clear p23); (try clear q23); (try clear hx23); (try clear c26); (try clear c29); (try clear c29b0); (try clear c29b1); (try clear c32); (try clear c33); (try clear c36); (try clear c39); (try clear c40); (try clear c43); (try clear c43b0); (try clear c44); (try clear c45); (try clear c47); (try clear c48); (try clear c48b0); (try clear c49); (try clear c49b0); (try clear c51); (try clear c52); (try clear c52b0); (try clear c53); (try clear c53b0); (try clear c53b1); (try clear c54); (try clear c54b0); (try clear c54b1); (try clear c55); (try clear c59); (try clear c60); (try clear p64); (try clear c66); (try clear c66b0); (try clear c66b1); (try clear c67); (try clear c68); (try clear c71); (try clear c72); (try clear c75); (try clear c78); (try clear c79); (try clear c82); (try clear c82b0); (try clear c83); (try clear c84); (try clear c86); (try clear c88); (try clear c88b0); (try clear c88b1); (try clear c90); (try clear c91); (try clear c93); (try clear c97); (try clear c97b0); (try clear c97b1); (try clear c98); (try clear c99); (try clear c101); (try clear c104); (try clear c105); (try clear c107); (try clear hcz100_0); (try clear hcz100_1); (try clear hcz102_0); (try clear hcz102_1); (try clear hcz106_0); (try clear hcz106_1); (try clear hcz108_0); (try clear hcz108_1); (try clear hcz10_0); (try clear hcz10_1); (try clear hcz14_0); (try clear hcz14_1); (try clear hcz34_0); (try clear hcz34_1); (try clear hcz41_0); (try clear hcz41_1); (try clear hcz46_0); (try clear hcz46_1); (try clear hcz61_0); (try clear hcz61_1); (try clear hcz69_0); (try clear hcz69_1); (try clear hcz73_0); (try clear hcz73_1); (try clear hcz80_0); (try clear hcz80_1); (try clear hcz85_0); (try clear hcz85_1); (try clear hcz87_0); (try clear hcz87_1); (try clear hcz92_0); (try clear hcz92_1); (try clear hcz94_0); (try clear hcz94_1); (try clear hfz100_0); (try clear hfz100_1); (try clear hfz102_0); (try clear hfz102_1); (try clear hfz106_0); (try clear hfz106_1); (try clear hfz108_0); (try clear hfz108_1); (try clear hfz10_0); (try clear hfz10_1); (try clear hfz14_0); (try clear hfz14_1); (try clear hfz34_0); (try clear hfz34_1); (try clear hfz41_0); (try clear hfz41_1); (try clear hfz46_0); (try clear hfz46_1); (try clear hfz61_0); (try clear hfz61_1); (try clear hfz69_0); (try clear hfz69_1); (try clear hfz73_0); (try clear hfz73_1); (try clear hfz80_0); (try clear hfz80_1); (try clear hfz85_0); (try clear hfz85_1); (try clear hfz87_0); (try clear hfz87_1); (try clear hfz92_0); (try clear hfz92_1); (try clear hfz94_0); (try clear hfz94_1); (try clear hx231_0); (try clear hx231_1); (try clear hx231_2); (try clear hx233_0); (try clear hx233_1); (try clear hx233_2); (try clear hx234_0); (try clear hx234_1); (try clear hx234_2); (try clear p2); (try clear p23); (try clear p231); (try clear p233); (try clear p234); (try clear p6); (try clear p64); (try clear q2); (try clear q23); (try clear q231); (try clear q233); (try clear q234)
                obtain ⟨kq, x125_80, rfl, HA, HJ80, HO_11, BK210, BK216, BK225, HB⟩ := hcut
                cases kq with
                | zero => exact absurd HA.out (by simp [lawMatches.j6])
                | succ kj80 =>
                 have H := HA.out
                 clear HA
                 simp only [lawMatches.j6] at H
                 by_cases c110 : x125_80 = true
                 ·subst c110
                  have H1 : (some false) = some r := by rw [if_pos rfl] at H; exact H
                  clear H
                  have H := H1
                  clear H1
                  obtain rfl := Option.some.inj H
                  go_wp2
                  go_ret
                  exact ⟨by first | rfl | (simp [errW_none, errW_some] <;> rfl) | (simp [*, errW_none, errW_some] <;> rfl), by repeat (first | (with_reducible first | exact HB.out | apply below_alloc | apply pw_below_drewN | apply below_drew1 | refine below_set ?_ GE210.out | refine below_set ?_ GE216.out | refine below_set ?_ GE225.out) | exact HB.out)⟩
                 ·replace c110 := Bool.eq_false_iff.mpr c110
                  subst c110
                  have H1 : ((linkhouseref8_ProfileFault.f kj80 l2).bind fun bt246 => (if bt246.1 = 0 then ((linkhouseref8_ProfileFault.f kj80 l3).bind fun bt248 => (lawMatches.j7 kj80 l2 l3 t211 (bt248.1 != 0) t214 t215 bt246.1 bt246.2)) else (lawMatches.j7 kj80 l2 l3 t211 false t214 t215 bt246.1 bt246.2))) = some r := by rw [if_neg (show ¬ (false = true) by decide)] at H; exact H
                  clear H
                  have H := H1
                  clear H1
                  replace H := Option.bind_eq_some_iff.mp H
                  obtain ⟨⟨t246, t247⟩, A1110, H⟩ := H
                  replace H : (if t246 = 0 then ((linkhouseref8_ProfileFault.f kj80 l3).bind fun bt248 => (lawMatches.j7 kj80 l2 l3 t211 (bt248.1 != 0) t214 t215 t246 t247)) else (lawMatches.j7 kj80 l2 l3 t211 false t214 t215 t246 t247)) = some r := H
                  have A111 := Aside0.mk A1110
                  clear A1110
                  have HC112 := Aside0.mk H
                  clear H
                  go_upto_region 27 with (first | ((with_reducible refine gate_callee (f := 12) rfl ?_); refine goesL_ (some 127) rfl rfl Try.func12 (by kernel_rfl) rfl #[.slice A2 l2.length c2] rfl (by (try simp only [List.map_toArray, List.map_cons, List.map_nil]); first | done | rfl | (simp only [List.length_drop, List.length_take]; rfl)) ?_; (with_reducible refine (linkhouseref8_ProfileFault.calls kj80 _ _ l2 t246 t247 _ ?side1 ?side2 A111.out).mono ?_); (case side1 => repeat (first | exact (Kd.C_below HR2.out HB.out) | (with_reducible refine Kd.C_alloc ?_ _) | (with_reducible refine Kd.C_drewN ?_ _) | (with_reducible refine Kd.C_drew ?_))); (case side2 => exact HC2.out); rintro e w113 ⟨rfl, hb⟩; refine ⟨_, rfl, ?_⟩; have n0_ := Aside0.mk (Kd.R_below (by (with_reducible repeat (first | apply Kd.R_alloc | apply Kd.R_drewN | apply Kd.R_drew)); exact HO_11.out) hb); have n1_ := Aside0.mk (blk_below (g := gb210) (o := .cells #[.int .i64 t208, .int .i64 t209] 25 (0, 0)) (by (with_reducible repeat (first | refine blk_drewN ?_ _ | refine blk_drew ?_ | refine blk_alloc ?_ _)); exact BK210.out) hb); have n2_ := Aside0.mk (blk_below (g := gb216) (o := .cells #[.int .i64 t214, .int .i64 t215] 25 (0, 0)) (by (with_reducible repeat (first | refine blk_drewN ?_ _ | refine blk_drew ?_ | refine blk_alloc ?_ _)); exact BK216.out) hb); have n3_ := Aside0.mk (blk_below (g := gb225) (o := .cells #[.int .i64 x226000_73, .int .i64 x226001_73] 25 (0, 0)) (by (with_reducible repeat (first | refine blk_drewN ?_ _ | refine blk_drew ?_ | refine blk_alloc ?_ _)); exact BK225.out) hb); have n4_ := Aside0.mk (below_step (by repeat (first | (with_reducible first | exact HB.out | apply below_alloc | apply pw_below_drewN | apply below_drew1 | refine below_set ?_ GE210.out | refine below_set ?_ GE216.out | refine below_set ?_ GE225.out) | exact HB.out)) hb); clear HO_11; clear BK210; clear BK216; clear BK225; clear HB; have HO_11 := n0_; have BK210 := n1_; have BK216 := n2_; have BK225 := n3_; have HB := n4_; clear n0_ n1_ n2_ n3_ n4_; (try clear hb); (try clear hb2); (try clear hk); (try clear hi); have hnb114 := NB225_210.out; have hnc114 := NB210_225.out; have hnb115 := NB225_216.out; have hnc115 := NB216_225.out; have hcz116_0 : w113.cell? ⟨gb225, 0, none⟩ = some (.int .i64 x226000_73) := (blk_cell BK225.out 0).trans rfl; have hcz116_1 : w113.cell? ⟨gb225, 1, none⟩ = some (.int .i64 x226001_73) := (blk_cell BK225.out 1).trans rfl; have hfz116_0 := blk_frozen BK225.out 0; have hfz116_1 := blk_frozen BK225.out 1))
                  (try simp only [Act.put, List.setIfInBounds_toArray, List.set_cons_zero, List.set_cons_succ])
                  go_cut [136] (fun v136 wc => ∃ (kq : Nat) (x136_111 : Bool), v136 = .bool x136_111 ∧ Aside0 (lawMatches.j7 kq l2 l3 t211 x136_111 t214 t215 t246 t247 = some r) ∧ Aside0 (kq ≤ kj80) ∧ Aside0 (Kd.R k32 32 wc w.heap.size (fun _ => True) v212 t211) ∧ Aside0 (wc.heap[gb210]? = some (.cells #[.int .i64 t208, .int .i64 t209] 25 (0, 0))) ∧ Aside0 (wc.heap[gb216]? = some (.cells #[.int .i64 t214, .int .i64 t215] 25 (0, 0))) ∧ Aside0 (wc.heap[gb225]? = some (.cells #[.int .i64 t246, .int .i64 t247] 25 (0, 0))) ∧ Aside0 (Below w.heap.size w wc))
                  case first => as_aux_lemma =>
                   have H := HC112.out
                   clear HC112
                   by_cases c117 : t246 = 0
                   ·rw [if_pos c117] at H
                    have c117b0 : (t246 == 0) = true := beq_iff_eq.mpr c117
                    have c117b1 : (t246 != 0) = false := bne_eq_false_iff_eq.mpr c117
                    clear c117
                    (first | rw [c117b0] | (simp only [i64_w, i32_w]; rw [c117b0]) | skip)
                    replace H := Option.bind_eq_some_iff.mp H
                    obtain ⟨⟨t248, t249⟩, A1180, H⟩ := H
                    replace H : (lawMatches.j7 kj80 l2 l3 t211 (t248 != 0) t214 t215 t246 t247) = some r := H
                    have A118 := Aside0.mk A1180
                    clear A1180
                    have H' := Aside0.mk H
                    clear H
                    have hnb119 := NB225_210.out
                    have hnc119 := NB210_225.out
                    have hnb120 := NB225_216.out
                    have hnc120 := NB216_225.out
                    have hcz121_0 : w113.cell? ⟨gb225, 0, none⟩ = some (.int .i64 x226000_73) := (blk_cell BK225.out 0).trans rfl
                    have hcz121_1 : w113.cell? ⟨gb225, 1, none⟩ = some (.int .i64 x226001_73) := (blk_cell BK225.out 1).trans rfl
                    have hfz121_0 := blk_frozen BK225.out 0
                    have hfz121_1 := blk_frozen BK225.out 1
                    go_wp2_with (first | (go_at_call 12; (with_reducible refine (linkhouseref8_ProfileFault.calls kj80 _ _ l3 t248 t249 _ ?side1 ?side2 A118.out).mono ?_); (case side1 => exact Kd.C_below HR3.out (by repeat (first | (with_reducible first | exact HB.out | apply below_alloc | apply pw_below_drewN | apply below_drew1 | refine below_set ?_ GE210.out | refine below_set ?_ GE216.out | refine below_set ?_ GE225.out) | exact HB.out))); (case side2 => exact HC3.out); rintro e w122 ⟨rfl, hb⟩; have n0_ := Aside0.mk (Kd.R_below (by (with_reducible repeat (first | apply Kd.R_alloc | apply Kd.R_drewN | apply Kd.R_drew)); exact (Kd.R_mono (xR2 HO_11.out BK225.out (by decide) (.int .i64 t246) (.int .i64 t247)) (fun _ h_ => h_.1))) hb); have n1_ := Aside0.mk (blk_below (g := gb210) (o := .cells #[.int .i64 t208, .int .i64 t209] 25 (0, 0)) (by (with_reducible repeat (first | refine blk_drewN ?_ _ | refine blk_drew ?_ | refine blk_alloc ?_ _)); refine blk_far ?_ NB210_225.out _; refine blk_far ?_ NB210_225.out _; (with_reducible repeat (first | refine blk_drewN ?_ _ | refine blk_drew ?_ | refine blk_alloc ?_ _)); exact BK210.out) hb); have n2_ := Aside0.mk (blk_below (g := gb216) (o := .cells #[.int .i64 t214, .int .i64 t215] 25 (0, 0)) (by (with_reducible repeat (first | refine blk_drewN ?_ _ | refine blk_drew ?_ | refine blk_alloc ?_ _)); refine blk_far ?_ NB216_225.out _; refine blk_far ?_ NB216_225.out _; (with_reducible repeat (first | refine blk_drewN ?_ _ | refine blk_drew ?_ | refine blk_alloc ?_ _)); exact BK216.out) hb); have n3_ := Aside0.mk (blk_below (g := gb225) (o := .cells #[.int .i64 t246, .int .i64 t247] 25 (0, 0)) (by (with_reducible repeat (first | refine blk_drewN ?_ _ | refine blk_drew ?_ | refine blk_alloc ?_ _)); refine blk_put (cs := #[.int .i64 t246, .int .i64 x226001_73]) ?_ 1 _ rfl; (with_reducible repeat (first | refine blk_drewN ?_ _ | refine blk_drew ?_ | refine blk_alloc ?_ _)); refine blk_put (cs := #[.int .i64 x226000_73, .int .i64 x226001_73]) ?_ 0 _ rfl; (with_reducible repeat (first | refine blk_drewN ?_ _ | refine blk_drew ?_ | refine blk_alloc ?_ _)); exact BK225.out) hb); have n4_ := Aside0.mk (below_step (by repeat (first | (with_reducible first | exact HB.out | apply below_alloc | apply pw_below_drewN | apply below_drew1 | refine below_set ?_ GE210.out | refine below_set ?_ GE216.out | refine below_set ?_ GE225.out) | exact HB.out)) hb); clear HO_11; clear BK210; clear BK216; clear BK225; clear HB; have HO_11 := n0_; have BK210 := n1_; have BK216 := n2_; have BK225 := n3_; have HB := n4_; clear n0_ n1_ n2_ n3_ n4_; (try clear hb); (try clear hb2); (try clear hk); (try clear hi)))
                    go_meet
                    case rel => exact ⟨_, ((t248 != 0)), (by first | rfl | (simp; done) | (simp [*]; done)), H', ⟨by have := HJ6.out; have := HJ26.out; have := HK3.out; have := HJ41.out; have := HJ62.out; have := HJ73.out; have := HJ80.out; first | omega | exact Nat.le_refl _⟩, ⟨by (with_reducible repeat (first | apply Kd.R_alloc | apply Kd.R_drewN | apply Kd.R_drew)); exact HO_11.out⟩, ⟨by (with_reducible repeat (first | refine blk_drewN ?_ _ | refine blk_drew ?_ | refine blk_alloc ?_ _)); exact BK210.out⟩, ⟨by (with_reducible repeat (first | refine blk_drewN ?_ _ | refine blk_drew ?_ | refine blk_alloc ?_ _)); exact BK216.out⟩, ⟨by (with_reducible repeat (first | refine blk_drewN ?_ _ | refine blk_drew ?_ | refine blk_alloc ?_ _)); exact BK225.out⟩, ⟨by repeat (first | (with_reducible first | exact HB.out | apply below_alloc | apply pw_below_drewN | apply below_drew1 | refine below_set ?_ GE210.out | refine below_set ?_ GE216.out | refine below_set ?_ GE225.out) | exact HB.out)⟩⟩
                   ·rw [if_neg c117] at H
                    have c117b0 : (t246 == 0) = false := beq_eq_false_iff_ne.mpr c117
                    have c117b1 : (t246 != 0) = true := bne_iff_ne.mpr c117
                    (first | rw [c117b0] | (simp only [i64_w, i32_w]; rw [c117b0]) | skip)
                    have H' := Aside0.mk H
                    clear H
                    have hnb123 := NB225_210.out
                    have hnc123 := NB210_225.out
                    have hnb124 := NB225_216.out
                    have hnc124 := NB216_225.out
                    have hcz125_0 : w113.cell? ⟨gb225, 0, none⟩ = some (.int .i64 x226000_73) := (blk_cell BK225.out 0).trans rfl
                    have hcz125_1 : w113.cell? ⟨gb225, 1, none⟩ = some (.int .i64 x226001_73) := (blk_cell BK225.out 1).trans rfl
                    have hfz125_0 := blk_frozen BK225.out 0
                    have hfz125_1 := blk_frozen BK225.out 1
                    go_wp2
                    go_meet
                    case rel => exact ⟨_, (false), (by first | rfl | (simp; done) | (simp [*]; done)), H', ⟨by have := HJ6.out; have := HJ26.out; have := HK3.out; have := HJ41.out; have := HJ62.out; have := HJ73.out; have := HJ80.out; first | omega | exact Nat.le_refl _⟩, ⟨by (with_reducible repeat (first | apply Kd.R_alloc | apply Kd.R_drewN | apply Kd.R_drew)); exact Kd.R_mono (xR2 HO_11.out BK225.out (by decide) (.int .i64 t246) (.int .i64 t247)) (fun _ hk => trivial)⟩, ⟨by (with_reducible repeat (first | refine blk_drewN ?_ _ | refine blk_drew ?_ | refine blk_alloc ?_ _)); refine blk_far ?_ NB210_225.out _; refine blk_far ?_ NB210_225.out _; (with_reducible repeat (first | refine blk_drewN ?_ _ | refine blk_drew ?_ | refine blk_alloc ?_ _)); exact BK210.out⟩, ⟨by (with_reducible repeat (first | refine blk_drewN ?_ _ | refine blk_drew ?_ | refine blk_alloc ?_ _)); refine blk_far ?_ NB216_225.out _; refine blk_far ?_ NB216_225.out _; (with_reducible repeat (first | refine blk_drewN ?_ _ | refine blk_drew ?_ | refine blk_alloc ?_ _)); exact BK216.out⟩, ⟨by (with_reducible repeat (first | refine blk_drewN ?_ _ | refine blk_drew ?_ | refine blk_alloc ?_ _)); refine blk_put (cs := #[.int .i64 t246, .int .i64 x226001_73]) ?_ 1 _ rfl; (with_reducible repeat (first | refine blk_drewN ?_ _ | refine blk_drew ?_ | refine blk_alloc ?_ _)); refine blk_put (cs := #[.int .i64 x226000_73, .int .i64 x226001_73]) ?_ 0 _ rfl; (with_reducible repeat (first | refine blk_drewN ?_ _ | refine blk_drew ?_ | refine blk_alloc ?_ _)); exact BK225.out⟩, ⟨by repeat (first | (with_reducible first | exact HB.out | apply below_alloc | apply pw_below_drewN | apply below_drew1 | refine below_set ?_ GE210.out | refine below_set ?_ GE216.out | refine below_set ?_ GE225.out) | exact HB.out)⟩⟩
                  case rest => as_aux_lemma =>
                   clear HC112
                   (try clear c1); (try clear c2); (try clear p2); (try clear q2); (try clear hx2); (try clear c3); (try clear c4); (try clear c5); (try clear c6); (try clear p6); (try clear c7); (try clear c8); (try clear c9); (try clear c10); (try clear c11); (try clear c12); (try clear c13); (try clear c14); (try clear c15); (try clear c17); (try clear c17b0); (try clear p23); (try clear q23); (try clear hx23); (try clear c26); (try clear c29); (try clear c29b0); (try clear c29b1); (try clear c32); (try clear c33); (try clear c36); (try clear c39); (try clear c40); (try clear c43); (try clear c43b0); (try clear c44); (try clear c45); (try clear c47); (try clear c48); (try clear c48b0); (try clear c49); (try clear c49b0); (try clear c51); (try clear c52); (try clear c52b0); (try clear c53); (try clear c53b0); (try clear c53b1); (try clear c54); (try clear c54b0); (try clear c54b1); (try clear c55); (try clear c59); (try clear c60); (try clear p64); (try clear c66); (try clear c66b0); (try clear c66b1); (try clear c67); (try clear c68); (try clear c71); (try clear c72); (try clear c75); (try clear c78); (try clear c79); (try clear c82); (try clear c82b0); (try clear c83); (try clear c84); (try clear c86); (try clear c88); (try clear c88b0); (try clear c88b1); (try clear c90); (try clear c91); (try clear c93); (try clear c97); (try clear c97b0); (try clear c97b1); (try clear c98); (try clear c99); (try clear c101); (try clear c104); (try clear c105); (try clear c107); (try clear c110); (try clear c114); (try clear c115); (try clear c117); (try clear c117b0); (try clear c117b1); (try clear c119); (try clear c120); (try clear c123); (try clear c124); (try clear hcz100_0); (try clear hcz100_1); (try clear hcz102_0); (try clear hcz102_1); (try clear hcz106_0); (try clear hcz106_1); (try clear hcz108_0); (try clear hcz108_1); (try clear hcz10_0); (try clear hcz10_1); (try clear hcz116_0); (try clear hcz116_1); (try clear hcz121_0); (try clear hcz121_1); (try clear hcz125_0); (try clear hcz125_1); (try clear hcz14_0); (try clear hcz14_1); (try clear hcz34_0); (try clear hcz34_1); (try clear hcz41_0); (try clear hcz41_1); (try clear hcz46_0); (try clear hcz46_1); (try clear hcz61_0); (try clear hcz61_1); (try clear hcz69_0); (try clear hcz69_1); (try clear hcz73_0); (try clear hcz73_1); (try clear hcz80_0); (try clear hcz80_1); (try clear hcz85_0); (try clear hcz85_1); (try clear hcz87_0); (try clear hcz87_1); (try clear hcz92_0); (try clear hcz92_1); (try clear hcz94_0); (try clear hcz94_1); (try clear hfz100_0); (try clear hfz100_1); (try clear hfz102_0); (try clear hfz102_1); (try clear hfz106_0); (try clear hfz106_1); (try clear hfz108_0); (try clear hfz108_1); (try clear hfz10_0); (try clear hfz10_1); (try clear hfz116_0); (try clear hfz116_1); (try clear hfz121_0); (try clear hfz121_1); (try clear hfz125_0); (try clear hfz125_1); (try clear hfz14_0); (try clear hfz14_1); (try clear hfz34_0); (try clear hfz34_1); (try clear hfz41_0); (try clear hfz41_1); (try clear hfz46_0); (try clear hfz46_1); (try clear hfz61_0); (try clear hfz61_1); (try clear hfz69_0); (try clear hfz69_1); (try clear hfz73_0); (try clear hfz73_1); (try clear hfz80_0); (try clear hfz80_1); (try clear hfz85_0); (try clear hfz85_1); (try clear hfz87_0); (try clear hfz87_1); (try clear hfz92_0); (try clear hfz92_1); (try clear hfz94_0); (try clear hfz94_1); (try clear hx231_0); (try clear hx231_1); (try clear hx231_2); (try clear hx233_0); (try clear hx233_1); (try clear hx233_2); (try clear hx234_0); (try clear hx234_1); (try clear hx234_2); (try clear p2); (try clear p23); (try clear p231); (try clear p233); (try clear p234); (try clear p6); (try clear p64); (try clear q2); (try clear q23); (try clear q231); (try clear q233); (try clear q234)
                   obtain ⟨kq, x136_111, rfl, HA, HJ111, HO_11, BK210, BK216, BK225, HB⟩ := hcut
                   cases kq with
                   | zero => exact absurd HA.out (by simp [lawMatches.j7])
                   | succ kj111 =>
                    have H := HA.out
                    clear HA
                    simp only [lawMatches.j7] at H
                    have HC126 := Aside0.mk H
                    clear H
                    go_upto_if 136 with (fail)
                    go_cut [] (fun wc => ∃ (kq : Nat) (x226000_125 : Int) (x226001_125 : Int), Aside0 (lawMatches.j8 kq l2 l3 t211 t214 t215 x226000_125 x226001_125 = some r) ∧ Aside0 (kq ≤ kj111) ∧ Aside0 (Kd.R k32 32 wc w.heap.size (fun _ => True) v212 t211) ∧ Aside0 (wc.heap[gb210]? = some (.cells #[.int .i64 t208, .int .i64 t209] 25 (0, 0))) ∧ Aside0 (wc.heap[gb216]? = some (.cells #[.int .i64 t214, .int .i64 t215] 25 (0, 0))) ∧ Aside0 (wc.heap[gb225]? = some (.cells #[.int .i64 x226000_125, .int .i64 x226001_125] 25 (0, 0))) ∧ Aside0 (Below w.heap.size w wc))
                    case first => as_aux_lemma =>
                     have H := HC126.out
                     clear HC126
                     by_cases c127 : x136_111 = true
                     ·subst c127
                      have H1 : ((linkhouseref8_ProfileFault.f kj111 l3).bind fun bt250 => ((linkhouseref7_At.f bt250.1 (-2)).bind fun bt252 => (lawMatches.j8 kj111 l2 l3 t211 t214 t215 bt252.1 bt252.2))) = some r := by rw [if_pos rfl] at H; exact H
                      clear H
                      have H := H1
                      clear H1
                      replace H := Option.bind_eq_some_iff.mp H
                      obtain ⟨⟨t250, t251⟩, A1280, H⟩ := H
                      replace H : ((linkhouseref7_At.f t250 (-2)).bind fun bt252 => (lawMatches.j8 kj111 l2 l3 t211 t214 t215 bt252.1 bt252.2)) = some r := H
                      have A128 := Aside0.mk A1280
                      clear A1280
                      replace H := Option.bind_eq_some_iff.mp H
                      obtain ⟨⟨t252, t253⟩, A1290, H⟩ := H
                      replace H : (lawMatches.j8 kj111 l2 l3 t211 t214 t215 t252 t253) = some r := H
                      have A129 := Aside0.mk A1290
                      clear A1290
                      have H' := Aside0.mk H
                      clear H
                      go_wp2_with (first | ((with_reducible refine gate_callee (f := 12) rfl ?_); refine goesL_ (some 138) rfl rfl Try.func12 (by kernel_rfl) rfl #[.slice A3 l3.length c3] rfl (by (try simp only [List.map_toArray, List.map_cons, List.map_nil]); first | done | rfl | (simp only [List.length_drop, List.length_take]; rfl)) ?_; (with_reducible refine (linkhouseref8_ProfileFault.calls kj111 _ _ l3 t250 t251 _ ?side1 ?side2 A128.out).mono ?_); (case side1 => repeat (first | exact (Kd.C_below HR3.out HB.out) | (with_reducible refine Kd.C_alloc ?_ _) | (with_reducible refine Kd.C_drewN ?_ _) | (with_reducible refine Kd.C_drew ?_))); (case side2 => exact HC3.out); rintro e w130 ⟨rfl, hb⟩; refine ⟨_, rfl, ?_⟩; have n0_ := Aside0.mk (Kd.R_below (by (with_reducible repeat (first | apply Kd.R_alloc | apply Kd.R_drewN | apply Kd.R_drew)); exact HO_11.out) hb); have n1_ := Aside0.mk (blk_below (g := gb210) (o := .cells #[.int .i64 t208, .int .i64 t209] 25 (0, 0)) (by (with_reducible repeat (first | refine blk_drewN ?_ _ | refine blk_drew ?_ | refine blk_alloc ?_ _)); exact BK210.out) hb); have n2_ := Aside0.mk (blk_below (g := gb216) (o := .cells #[.int .i64 t214, .int .i64 t215] 25 (0, 0)) (by (with_reducible repeat (first | refine blk_drewN ?_ _ | refine blk_drew ?_ | refine blk_alloc ?_ _)); exact BK216.out) hb); have n3_ := Aside0.mk (blk_below (g := gb225) (o := .cells #[.int .i64 t246, .int .i64 t247] 25 (0, 0)) (by (with_reducible repeat (first | refine blk_drewN ?_ _ | refine blk_drew ?_ | refine blk_alloc ?_ _)); exact BK225.out) hb); have n4_ := Aside0.mk (below_step (by repeat (first | (with_reducible first | exact HB.out | apply below_alloc | apply pw_below_drewN | apply below_drew1 | refine below_set ?_ GE210.out | refine below_set ?_ GE216.out | refine below_set ?_ GE225.out) | exact HB.out)) hb); clear HO_11; clear BK210; clear BK216; clear BK225; clear HB; have HO_11 := n0_; have BK210 := n1_; have BK216 := n2_; have BK225 := n3_; have HB := n4_; clear n0_ n1_ n2_ n3_ n4_; (try clear hb); (try clear hb2); (try clear hk); (try clear hi)) | ((with_reducible refine gate_callee (f := 13) rfl ?_); refine goesL_ (some 140) rfl rfl Try.func13 (by kernel_rfl) rfl #[.int .i64 t250, .int .i64 (-2)] rfl (by (try simp only [List.map_toArray, List.map_cons, List.map_nil]); first | done | rfl | (simp only [List.length_drop, List.length_take]; rfl)) ?_; (with_reducible refine (linkhouseref7_At.calls t250 (-2) t252 t253 _ A129.out).mono ?_); rintro e w131 ⟨rfl, hb⟩; refine ⟨_, rfl, ?_⟩; have n0_ := Aside0.mk (Kd.R_below (by (with_reducible repeat (first | apply Kd.R_alloc | apply Kd.R_drewN | apply Kd.R_drew)); exact HO_11.out) hb); have n1_ := Aside0.mk (blk_below (g := gb210) (o := .cells #[.int .i64 t208, .int .i64 t209] 25 (0, 0)) (by (with_reducible repeat (first | refine blk_drewN ?_ _ | refine blk_drew ?_ | refine blk_alloc ?_ _)); exact BK210.out) hb); have n2_ := Aside0.mk (blk_below (g := gb216) (o := .cells #[.int .i64 t214, .int .i64 t215] 25 (0, 0)) (by (with_reducible repeat (first | refine blk_drewN ?_ _ | refine blk_drew ?_ | refine blk_alloc ?_ _)); exact BK216.out) hb); have n3_ := Aside0.mk (blk_below (g := gb225) (o := .cells #[.int .i64 t246, .int .i64 t247] 25 (0, 0)) (by (with_reducible repeat (first | refine blk_drewN ?_ _ | refine blk_drew ?_ | refine blk_alloc ?_ _)); exact BK225.out) hb); have n4_ := Aside0.mk (below_step (by repeat (first | (with_reducible first | exact HB.out | apply below_alloc | apply pw_below_drewN | apply below_drew1 | refine below_set ?_ GE210.out | refine below_set ?_ GE216.out | refine below_set ?_ GE225.out) | exact HB.out)) hb); clear HO_11; clear BK210; clear BK216; clear BK225; clear HB; have HO_11 := n0_; have BK210 := n1_; have BK216 := n2_; have BK225 := n3_; have HB := n4_; clear n0_ n1_ n2_ n3_ n4_; (try clear hb); (try clear hb2); (try clear hk); (try clear hi); have hnb132 := NB225_210.out; have hnc132 := NB210_225.out; have hnb133 := NB225_216.out; have hnc133 := NB216_225.out; have hcz134_0 : w131.cell? ⟨gb225, 0, none⟩ = some (.int .i64 t246) := (blk_cell BK225.out 0).trans rfl; have hcz134_1 : w131.cell? ⟨gb225, 1, none⟩ = some (.int .i64 t247) := (blk_cell BK225.out 1).trans rfl; have hfz134_0 := blk_frozen BK225.out 0; have hfz134_1 := blk_frozen BK225.out 1))
                      go_meet
                      case rel => exact ⟨_, (t252), (t253), H', ⟨by have := HJ6.out; have := HJ26.out; have := HK3.out; have := HJ41.out; have := HJ62.out; have := HJ73.out; have := HJ80.out; have := HJ111.out; first | omega | exact Nat.le_refl _⟩, ⟨by (with_reducible repeat (first | apply Kd.R_alloc | apply Kd.R_drewN | apply Kd.R_drew)); exact Kd.R_mono (xR2 HO_11.out BK225.out (by decide) (.int .i64 t252) (.int .i64 t253)) (fun _ hk => trivial)⟩, ⟨by (with_reducible repeat (first | refine blk_drewN ?_ _ | refine blk_drew ?_ | refine blk_alloc ?_ _)); refine blk_far ?_ NB210_225.out _; refine blk_far ?_ NB210_225.out _; (with_reducible repeat (first | refine blk_drewN ?_ _ | refine blk_drew ?_ | refine blk_alloc ?_ _)); exact BK210.out⟩, ⟨by (with_reducible repeat (first | refine blk_drewN ?_ _ | refine blk_drew ?_ | refine blk_alloc ?_ _)); refine blk_far ?_ NB216_225.out _; refine blk_far ?_ NB216_225.out _; (with_reducible repeat (first | refine blk_drewN ?_ _ | refine blk_drew ?_ | refine blk_alloc ?_ _)); exact BK216.out⟩, ⟨by (with_reducible repeat (first | refine blk_drewN ?_ _ | refine blk_drew ?_ | refine blk_alloc ?_ _)); refine blk_put (cs := #[.int .i64 t252, .int .i64 t247]) ?_ 1 _ rfl; (with_reducible repeat (first | refine blk_drewN ?_ _ | refine blk_drew ?_ | refine blk_alloc ?_ _)); refine blk_put (cs := #[.int .i64 t246, .int .i64 t247]) ?_ 0 _ rfl; (with_reducible repeat (first | refine blk_drewN ?_ _ | refine blk_drew ?_ | refine blk_alloc ?_ _)); exact BK225.out⟩, ⟨by repeat (first | (with_reducible first | exact HB.out | apply below_alloc | apply pw_below_drewN | apply below_drew1 | refine below_set ?_ GE210.out | refine below_set ?_ GE216.out | refine below_set ?_ GE225.out) | exact HB.out)⟩⟩
                     ·replace c127 := Bool.eq_false_iff.mpr c127
                      subst c127
                      have H1 : (lawMatches.j8 kj111 l2 l3 t211 t214 t215 t246 t247) = some r := by rw [if_neg (show ¬ (false = true) by decide)] at H; exact H
                      clear H
                      have H := H1
                      clear H1
                      have H' := Aside0.mk H
                      clear H
                      go_wp2
                      go_meet
                      case rel => exact ⟨_, (t246), (t247), H', ⟨by have := HJ6.out; have := HJ26.out; have := HK3.out; have := HJ41.out; have := HJ62.out; have := HJ73.out; have := HJ80.out; have := HJ111.out; first | omega | exact Nat.le_refl _⟩, ⟨by (with_reducible repeat (first | apply Kd.R_alloc | apply Kd.R_drewN | apply Kd.R_drew)); exact HO_11.out⟩, ⟨by (with_reducible repeat (first | refine blk_drewN ?_ _ | refine blk_drew ?_ | refine blk_alloc ?_ _)); exact BK210.out⟩, ⟨by (with_reducible repeat (first | refine blk_drewN ?_ _ | refine blk_drew ?_ | refine blk_alloc ?_ _)); exact BK216.out⟩, ⟨by (with_reducible repeat (first | refine blk_drewN ?_ _ | refine blk_drew ?_ | refine blk_alloc ?_ _)); exact BK225.out⟩, ⟨by repeat (first | (with_reducible first | exact HB.out | apply below_alloc | apply pw_below_drewN | apply below_drew1 | refine below_set ?_ GE210.out | refine below_set ?_ GE216.out | refine below_set ?_ GE225.out) | exact HB.out)⟩⟩
                    case rest => as_aux_lemma =>
                     clear HC126
                     (try clear c1); (try clear c2); (try clear p2); (try clear q2); (try clear hx2); (try clear c3); (try clear c4); (try clear c5); (try clear c6); (try clear p6); (try clear c7); (try clear c8); (try clear c9); (try clear c10); (try clear c11); (try clear c12); (try clear c13); (try clear c14); (try clear c15); (try clear c17); (try clear c17b0); (try clear p23); (try clear q23); (try clear hx23); (try clear c26); (try clear c29); (try clear c29b0); (try clear c29b1); (try clear c32); (try clear c33); (try clear c36); (try clear c39); (try clear c40); (try clear c43); (try clear c43b0); (try clear c44); (try clear c45); (try clear c47); (try clear c48); (try clear c48b0); (try clear c49); (try clear c49b0); (try clear c51); (try clear c52); (try clear c52b0); (try clear c53); (try clear c53b0); (try clear c53b1); (try clear c54); (try clear c54b0); (try clear c54b1); (try clear c55); (try clear c59); (try clear c60); (try clear p64); (try clear c66); (try clear c66b0); (try clear c66b1); (try clear c67); (try clear c68); (try clear c71); (try clear c72); (try clear c75); (try clear c78); (try clear c79); (try clear c82); (try clear c82b0); (try clear c83); (try clear c84); (try clear c86); (try clear c88); (try clear c88b0); (try clear c88b1); (try clear c90); (try clear c91); (try clear c93); (try clear c97); (try clear c97b0); (try clear c97b1); (try clear c98); (try clear c99); (try clear c101); (try clear c104); (try clear c105); (try clear c107); (try clear c110); (try clear c114); (try clear c115); (try clear c117); (try clear c117b0); (try clear c117b1); (try clear c119); (try clear c120); (try clear c123); (try clear c124); (try clear c127); (try clear c132); (try clear c133); (try clear hcz100_0); (try clear hcz100_1); (try clear hcz102_0); (try clear hcz102_1); (try clear hcz106_0); (try clear hcz106_1); (try clear hcz108_0); (try clear hcz108_1); (try clear hcz10_0); (try clear hcz10_1); (try clear hcz116_0); (try clear hcz116_1); (try clear hcz121_0); (try clear hcz121_1); (try clear hcz125_0); (try clear hcz125_1); (try clear hcz134_0); (try clear hcz134_1); (try clear hcz14_0); (try clear hcz14_1); (try clear hcz34_0); (try clear hcz34_1); (try clear hcz41_0); (try clear hcz41_1); (try clear hcz46_0); (try clear hcz46_1); (try clear hcz61_0); (try clear hcz61_1); (try clear hcz69_0); (try clear hcz69_1); (try clear hcz73_0); (try clear hcz73_1); (try clear hcz80_0); (try clear hcz80_1); (try clear hcz85_0); (try clear hcz85_1); (try clear hcz87_0); (try clear hcz87_1); (try clear hcz92_0); (try clear hcz92_1); (try clear hcz94_0); (try clear hcz94_1); (try clear hfz100_0); (try clear hfz100_1); (try clear hfz102_0); (try clear hfz102_1); (try clear hfz106_0); (try clear hfz106_1); (try clear hfz108_0); (try clear hfz108_1); (try clear hfz10_0); (try clear hfz10_1); (try clear hfz116_0); (try clear hfz116_1); (try clear hfz121_0); (try clear hfz121_1); (try clear hfz125_0); (try clear hfz125_1); (try clear hfz134_0); (try clear hfz134_1); (try clear hfz14_0); (try clear hfz14_1); (try clear hfz34_0); (try clear hfz34_1); (try clear hfz41_0); (try clear hfz41_1); (try clear hfz46_0); (try clear hfz46_1); (try clear hfz61_0); (try clear hfz61_1); (try clear hfz69_0); (try clear hfz69_1); (try clear hfz73_0); (try clear hfz73_1); (try clear hfz80_0); (try clear hfz80_1); (try clear hfz85_0); (try clear hfz85_1); (try clear hfz87_0); (try clear hfz87_1); (try clear hfz92_0); (try clear hfz92_1); (try clear hfz94_0); (try clear hfz94_1); (try clear hx231_0); (try clear hx231_1); (try clear hx231_2); (try clear hx233_0); (try clear hx233_1); (try clear hx233_2); (try clear hx234_0); (try clear hx234_1); (try clear hx234_2); (try clear p2); (try clear p23); (try clear p231); (try clear p233); (try clear p234); (try clear p6); (try clear p64); (try clear q2); (try clear q23); (try clear q231); (try clear q233); (try clear q234)
                     obtain ⟨kq, x226000_125, x226001_125, HA, HJ125, HO_11, BK210, BK216, BK225, HB⟩ := hcut
                     cases kq with
                     | zero => exact absurd HA.out (by simp [lawMatches.j8])
                     | succ kj125 =>
                      have H := HA.out
                      clear HA
                      simp only [lawMatches.j8] at H
                      by_cases c135 : x226000_125 = 0
                      ·rw [if_pos c135] at H
                       have c135b0 : (x226000_125 == 0) = true := beq_iff_eq.mpr c135
                       have c135b1 : (x226000_125 != 0) = false := bne_eq_false_iff_eq.mpr c135
                       clear c135
                       have HC136 := Aside0.mk H
                       clear H
                       have hnb137 := NB225_210.out
                       have hnc137 := NB210_225.out
                       have hnb138 := NB225_216.out
                       have hnc138 := NB216_225.out
                       have hcz139_0 : wc.cell? ⟨gb225, 0, none⟩ = some (.int .i64 x226000_125) := (blk_cell BK225.out 0).trans rfl
                       have hcz139_1 : wc.cell? ⟨gb225, 1, none⟩ = some (.int .i64 x226001_125) := (blk_cell BK225.out 1).trans rfl
                       have hfz139_0 := blk_frozen BK225.out 0
                       have hfz139_1 := blk_frozen BK225.out 1
                       go_upto_region 31 with (fail)
                       go_cut [17] (fun v17 wc => ∃ (kq : Nat) (x17_135 : List (S32)), Aside0 (lawMatches.j9 kq t211 x17_135 t214 t215 = some r) ∧ Aside0 (kq ≤ kj125) ∧ Aside0 (Kd.R k32 32 wc w.heap.size (fun k_ => some k_ ≠ (v17 : Value).ownBlock) v212 t211) ∧ Aside0 (Kd.R k32 32 wc w.heap.size (fun k_ => some k_ ≠ (v212 : Value).ownBlock) v17 x17_135) ∧ Aside0 (wc.heap[gb210]? = some (.cells #[.int .i64 t208, .int .i64 t209] 25 (0, 0))) ∧ Aside0 (wc.heap[gb216]? = some (.cells #[.int .i64 t214, .int .i64 t215] 25 (0, 0))) ∧ Aside0 (wc.heap[gb225]? = some (.cells #[.int .i64 x226000_125, .int .i64 x226001_125] 25 (0, 0))) ∧ Aside0 (Below w.heap.size w wc))
                       case first => as_aux_lemma =>
                        have H := HC136.out
                        clear HC136
                        by_cases c140 : ([] : List (S32)).length + l2.length < 8796093022208
                        ·rw [if_pos c140] at H
                         have LMc140 := Aside0.mk c140
                         clear c140
                         obtain ⟨y255, hy255⟩ : ∃ y_ : List (S32), y_ = (([] : List (S32)) ++ l2) := ⟨_, rfl⟩
                         replace H : (if y255.length + l3.length < 8796093022208 then ((linkhouseref8_Profile.f kj125 (y255 ++ l3)).bind fun t261 => (lawMatches.j9 kj125 t211 t261 t214 t215)) else (none)) = some r := by first | (rw [hy255]; with_reducible exact H) | (have H2_ := (Option.bind_some _ _).symm.trans H; rw [hy255]; with_reducible exact H2_) | (have H2_ := (Option.bind_some _ _).symm.trans H; with_reducible exact H2_) | with_reducible exact H | (rw [hy255]; exact H) | exact H
                         have Ny255 := Aside0.mk hy255
                         clear hy255
                         by_cases c141 : y255.length + l3.length < 8796093022208
                         ·rw [if_pos c141] at H
                          have LMc141 := Aside0.mk c141
                          clear c141
                          obtain ⟨y258, hy258⟩ : ∃ y_ : List (S32), y_ = (y255 ++ l3) := ⟨_, rfl⟩
                          replace H : ((linkhouseref8_Profile.f kj125 y258).bind fun t261 => (lawMatches.j9 kj125 t211 t261 t214 t215)) = some r := by first | (rw [hy258]; with_reducible exact H) | (have H2_ := (Option.bind_some _ _).symm.trans H; rw [hy258]; with_reducible exact H2_) | (have H2_ := (Option.bind_some _ _).symm.trans H; with_reducible exact H2_) | with_reducible exact H | (rw [hy258]; exact H) | exact H
                          have Ny258 := Aside0.mk hy258
                          clear hy258
                          replace H := Option.bind_eq_some_iff.mp H
                          obtain ⟨t261, A1420, H⟩ := H
                          replace H : (lawMatches.j9 kj125 t211 t261 t214 t215) = some r := H
                          have A142 := Aside0.mk A1420
                          clear A1420
                          have H' := Aside0.mk H
                          clear H
                          go_wp2_with (first | ((with_reducible refine gate_builtin (b := .append) (xs := #[.const (.slice none 0 0), .tmp 155]) rfl ?_); (try (refine gate_guard (by rfl) ?_; dsimp only)); at_builtin; refine Kd.R_append_rows k32 (w0 := w) w.heap.size rfl (.const (.slice none 0 0)) (.tmp 155) 23 32 (.agg #[(.int .i64 0), (.int .i64 0)]) 16 rfl Try.underlying23 info32 rfl (by decide) (by omega) (.slice none 0 0) ([] : List (S32)) l2 _ _ _ (fun k_ => some k_ ≠ (v212 : Value).ownBlock) (fun _ => False) rfl rfl ?aO ?aR (fun _ _ h => h) (fun _ h => h.elim) ?aF ?aB ?aS ?aL ?_; (case aR => repeat (first | exact (Kd.C_below HR2.out HB.out) | (with_reducible refine Kd.C_alloc ?_ _) | (with_reducible refine Kd.C_drewN ?_ _) | (with_reducible refine Kd.C_drew ?_))); (case aB => exact (by repeat (first | (with_reducible first | exact HB.out | apply below_alloc | apply pw_below_drewN | apply below_drew1 | refine below_set ?_ GE210.out | refine below_set ?_ GE216.out | refine below_set ?_ GE225.out) | exact HB.out))); (case aF => exact (fun k_ hk => Kd.fresh' (Kd.R_lt (by (with_reducible repeat (first | apply Kd.R_alloc | apply Kd.R_drewN | apply Kd.R_drew)); exact HO_11.out)) k_ hk)); (case aO => exact ((Kd.R_nil _ _ _ _ (fun k_ => some k_ ≠ (v212 : Value).ownBlock)))); (case aS => exact (below_size (by repeat (first | (with_reducible first | exact HB.out | apply below_alloc | apply pw_below_drewN | apply below_drew1 | refine below_set ?_ GE210.out | refine below_set ?_ GE216.out | refine below_set ?_ GE225.out) | exact HB.out)))); (case aL => have := LMc140.out; omega); intro v256 w143 ho hb hg hat; rw [← Ny255.out] at ho; have n0_ := Aside0.mk (Kd.R_after (Kd.R_apart_nil (by (with_reducible repeat (first | apply Kd.R_alloc | apply Kd.R_drewN | apply Kd.R_drew)); exact HO_11.out)) hg hat); have n1_ := Aside0.mk (blk_grown (g := gb210) (o := .cells #[.int .i64 t208, .int .i64 t209] 25 (0, 0)) (by (with_reducible repeat (first | refine blk_drewN ?_ _ | refine blk_drew ?_ | refine blk_alloc ?_ _)); exact BK210.out) hg (by simp [Value.ownBlock])); have n2_ := Aside0.mk (blk_grown (g := gb216) (o := .cells #[.int .i64 t214, .int .i64 t215] 25 (0, 0)) (by (with_reducible repeat (first | refine blk_drewN ?_ _ | refine blk_drew ?_ | refine blk_alloc ?_ _)); exact BK216.out) hg (by simp [Value.ownBlock])); have n3_ := Aside0.mk (blk_grown (g := gb225) (o := .cells #[.int .i64 x226000_125, .int .i64 x226001_125] 25 (0, 0)) (by (with_reducible repeat (first | refine blk_drewN ?_ _ | refine blk_drew ?_ | refine blk_alloc ?_ _)); exact BK225.out) hg (by simp [Value.ownBlock])); have n4_ := Aside0.mk (hb); have n5_ := Aside0.mk (ho); clear HO_11; clear BK210; clear BK216; clear BK225; clear HB; have HO_11 := n0_; have BK210 := n1_; have BK216 := n2_; have BK225 := n3_; have HB := n4_; have HO257 := n5_; clear n0_ n1_ n2_ n3_ n4_ n5_; clear ho hb hg hat) | ((with_reducible refine gate_builtin (b := .append) (xs := #[.tmp 156, .tmp 157]) rfl ?_); (try (refine gate_guard (by rfl) ?_; dsimp only)); at_builtin; refine Kd.R_append_rows k32 (w0 := w) w.heap.size rfl (.tmp 156) (.tmp 157) 23 32 (.agg #[(.int .i64 0), (.int .i64 0)]) 16 rfl Try.underlying23 info32 rfl (by decide) (by omega) v256 y255 l3 _ _ _ (fun k_ => some k_ ≠ (v212 : Value).ownBlock) (fun _ => False) rfl rfl ?aO ?aR (fun _ _ h => h) (fun _ h => h.elim) ?aF ?aB ?aS ?aL ?_; (case aR => repeat (first | exact (Kd.C_below HR3.out HB.out) | (with_reducible refine Kd.C_alloc ?_ _) | (with_reducible refine Kd.C_drewN ?_ _) | (with_reducible refine Kd.C_drew ?_))); (case aB => exact (by repeat (first | (with_reducible first | exact HB.out | apply below_alloc | apply pw_below_drewN | apply below_drew1 | refine below_set ?_ GE210.out | refine below_set ?_ GE216.out | refine below_set ?_ GE225.out) | exact HB.out))); (case aF => exact (fun k_ hk => Kd.fresh' (Kd.R_lt (by (with_reducible repeat (first | apply Kd.R_alloc | apply Kd.R_drewN | apply Kd.R_drew)); exact HO_11.out)) k_ hk)); (case aO => exact (by (with_reducible repeat (first | apply Kd.R_alloc | apply Kd.R_drewN | apply Kd.R_drew)); exact HO257.out)); (case aS => exact (below_size (by repeat (first | (with_reducible first | exact HB.out | apply below_alloc | apply pw_below_drewN | apply below_drew1 | refine below_set ?_ GE210.out | refine below_set ?_ GE216.out | refine below_set ?_ GE225.out) | exact HB.out)))); (case aL => have := LMc141.out; omega); intro v259 w144 ho hb hg hat; rw [← Ny258.out] at ho; have n0_ := Aside0.mk (Kd.R_after (ok := (fun _ => True)) (by (with_reducible repeat (first | apply Kd.R_alloc | apply Kd.R_drewN | apply Kd.R_drew)); exact HO_11.out) hg hat); have n1_ := Aside0.mk (blk_grown (g := gb210) (o := .cells #[.int .i64 t208, .int .i64 t209] 25 (0, 0)) (by (with_reducible repeat (first | refine blk_drewN ?_ _ | refine blk_drew ?_ | refine blk_alloc ?_ _)); exact BK210.out) hg (Kd.R_ne HO257.out BK210.out (by decide))); have n2_ := Aside0.mk (blk_grown (g := gb216) (o := .cells #[.int .i64 t214, .int .i64 t215] 25 (0, 0)) (by (with_reducible repeat (first | refine blk_drewN ?_ _ | refine blk_drew ?_ | refine blk_alloc ?_ _)); exact BK216.out) hg (Kd.R_ne HO257.out BK216.out (by decide))); have n3_ := Aside0.mk (blk_grown (g := gb225) (o := .cells #[.int .i64 x226000_125, .int .i64 x226001_125] 25 (0, 0)) (by (with_reducible repeat (first | refine blk_drewN ?_ _ | refine blk_drew ?_ | refine blk_alloc ?_ _)); exact BK225.out) hg (Kd.R_ne HO257.out BK225.out (by decide))); have n4_ := Aside0.mk (hb); have n5_ := Aside0.mk (ho); clear HO_11; clear BK210; clear BK216; clear BK225; clear HB; clear HO257; have HO_11 := n0_; have BK210 := n1_; have BK216 := n2_; have BK225 := n3_; have HB := n4_; have HO260 := n5_; clear n0_ n1_ n2_ n3_ n4_ n5_; clear ho hb hg hat; obtain ⟨Ao145, co145, eo145⟩ := Kd.R_slice HO260.out; subst eo145) | ((with_reducible refine gate_callee (f := 15) rfl ?_); refine goesL_ (some 159) rfl rfl Try.func15 (by kernel_rfl) rfl #[.slice Ao145 y258.length co145] rfl (by (try simp only [List.map_toArray, List.map_cons, List.map_nil]); first | done | rfl | (simp only [List.length_drop, List.length_take]; rfl)) ?_; (with_reducible refine (linkhouseref8_Profile.calls kj125 _ _ y258 t261 _ ?side1 ?side2 A142.out).mono ?_); (case side1 => repeat (first | exact (Kd.R_reads' HO260.out).2.2 | (with_reducible refine Kd.C_alloc ?_ _) | (with_reducible refine Kd.C_drewN ?_ _) | (with_reducible refine Kd.C_drew ?_))); (case side2 => exact (Kd.R_reads' HO260.out).2.1); rintro e w146 ⟨v262, rfl, ho0, hb⟩; refine ⟨_, rfl, ?_⟩; have n0_ := Aside0.mk (Kd.R_elder' (by (with_reducible repeat (first | apply Kd.R_alloc | apply Kd.R_drewN | apply Kd.R_drew)); exact HO_11.out) (Kd.R_base ho0) hb); have n1_ := Aside0.mk (Kd.R_elder' (by (with_reducible repeat (first | apply Kd.R_alloc | apply Kd.R_drewN | apply Kd.R_drew)); exact HO260.out) (Kd.R_base ho0) hb); have n2_ := Aside0.mk (Kd.R_lower (Kd.R_new' (Kd.R_new' ho0 (Kd.R_lt (by (with_reducible repeat (first | apply Kd.R_alloc | apply Kd.R_drewN | apply Kd.R_drew)); exact HO_11.out))) (Kd.R_lt (by (with_reducible repeat (first | apply Kd.R_alloc | apply Kd.R_drewN | apply Kd.R_drew)); exact HO260.out))) (below_size (by repeat (first | (with_reducible first | exact HB.out | apply below_alloc | apply pw_below_drewN | apply below_drew1 | refine below_set ?_ GE210.out | refine below_set ?_ GE216.out | refine below_set ?_ GE225.out) | exact HB.out)))); have n3_ := Aside0.mk (blk_below (g := gb210) (o := .cells #[.int .i64 t208, .int .i64 t209] 25 (0, 0)) (by (with_reducible repeat (first | refine blk_drewN ?_ _ | refine blk_drew ?_ | refine blk_alloc ?_ _)); exact BK210.out) hb); have n4_ := Aside0.mk (blk_below (g := gb216) (o := .cells #[.int .i64 t214, .int .i64 t215] 25 (0, 0)) (by (with_reducible repeat (first | refine blk_drewN ?_ _ | refine blk_drew ?_ | refine blk_alloc ?_ _)); exact BK216.out) hb); have n5_ := Aside0.mk (blk_below (g := gb225) (o := .cells #[.int .i64 x226000_125, .int .i64 x226001_125] 25 (0, 0)) (by (with_reducible repeat (first | refine blk_drewN ?_ _ | refine blk_drew ?_ | refine blk_alloc ?_ _)); exact BK225.out) hb); have n6_ := Aside0.mk (below_step (by repeat (first | (with_reducible first | exact HB.out | apply below_alloc | apply pw_below_drewN | apply below_drew1 | refine below_set ?_ GE210.out | refine below_set ?_ GE216.out | refine below_set ?_ GE225.out) | exact HB.out)) hb); clear HO_11; clear HO260; clear BK210; clear BK216; clear BK225; clear HB; have HO_11 := n0_; have HO260 := n1_; have HO263 := n2_; have BK210 := n3_; have BK216 := n4_; have BK225 := n5_; have HB := n6_; clear n0_ n1_ n2_ n3_ n4_ n5_ n6_; (try clear hb); (try clear hb2); (try clear hk); (try clear hi); (try clear ho0)))
                          go_meet
                          case rel => exact ⟨_, (t261), H', ⟨by have := HJ6.out; have := HJ26.out; have := HK3.out; have := HJ41.out; have := HJ62.out; have := HJ73.out; have := HJ80.out; have := HJ111.out; have := HJ125.out; first | omega | exact Nat.le_refl _⟩, ⟨by (with_reducible repeat (first | apply Kd.R_alloc | apply Kd.R_drewN | apply Kd.R_drew)); exact Kd.R_mono HO_11.out (fun _ hk => hk.2)⟩, ⟨by (with_reducible repeat (first | apply Kd.R_alloc | apply Kd.R_drewN | apply Kd.R_drew)); exact Kd.R_mono HO263.out (fun _ hk => hk.1.2)⟩, ⟨by (with_reducible repeat (first | refine blk_drewN ?_ _ | refine blk_drew ?_ | refine blk_alloc ?_ _)); exact BK210.out⟩, ⟨by (with_reducible repeat (first | refine blk_drewN ?_ _ | refine blk_drew ?_ | refine blk_alloc ?_ _)); exact BK216.out⟩, ⟨by (with_reducible repeat (first | refine blk_drewN ?_ _ | refine blk_drew ?_ | refine blk_alloc ?_ _)); exact BK225.out⟩, ⟨by repeat (first | (with_reducible first | exact HB.out | apply below_alloc | apply pw_below_drewN | apply below_drew1 | refine below_set ?_ GE210.out | refine below_set ?_ GE216.out | refine below_set ?_ GE225.out) | exact HB.out)⟩⟩
                         ·rw [if_neg c141] at H
                          exact absurd H (by simp)
                        ·rw [if_neg c140] at H
                         exact absurd H (by simp)
                       case rest => as_aux_lemma =>
                        clear HC136
                        (try clear c1); (try clear c2); (try clear p2); (try clear q2); (try clear hx2); (try clear c3); (try clear c4); (try clear c5); (try clear c6); (try clear p6); (try clear c7); (try clear c8); (try clear c9); (try clear c10); (try clear c11); (try clear c12); (try clear c13); (try clear c14); (try clear c15); (try clear c17); (try clear c17b0); (try clear p23); (try clear q23); (try clear hx23); (try clear c26); (try clear c29); (try clear c29b0); (try clear c29b1); (try clear c32); (try clear c33); (try clear c36); (try clear c39); (try clear c40); (try clear c43); (try clear c43b0); (try clear c44); (try clear c45); (try clear c47); (try clear c48); (try clear c48b0); (try clear c49); (try clear c49b0); (try clear c51); (try clear c52); (try clear c52b0); (try clear c53); (try clear c53b0); (try clear c53b1); (try clear c54); (try clear c54b0); (try clear c54b1); (try clear c55); (try clear c59); (try clear c60); (try clear p64); (try clear c66); (try clear c66b0); (try clear c66b1); (try clear c67); (try clear c68); (try clear c71); (try clear c72); (try clear c75); (try clear c78); (try clear c79); (try clear c82); (try clear c82b0); (try clear c83); (try clear c84); (try clear c86); (try clear c88); (try clear c88b0); (try clear c88b1); (try clear c90); (try clear c91); (try clear c93); (try clear c97); (try clear c97b0); (try clear c97b1); (try clear c98); (try clear c99); (try clear c101); (try clear c104); (try clear c105); (try clear c107); (try clear c110); (try clear c114); (try clear c115); (try clear c117); (try clear c117b0); (try clear c117b1); (try clear c119); (try clear c120); (try clear c123); (try clear c124); (try clear c127); (try clear c132); (try clear c133); (try clear c135); (try clear c135b0); (try clear c135b1); (try clear c137); (try clear c138); (try clear c140); (try clear c141); (try clear hcz100_0); (try clear hcz100_1); (try clear hcz102_0); (try clear hcz102_1); (try clear hcz106_0); (try clear hcz106_1); (try clear hcz108_0); (try clear hcz108_1); (try clear hcz10_0); (try clear hcz10_1); (try clear hcz116_0); (try clear hcz116_1); (try clear hcz121_0); (try clear hcz121_1); (try clear hcz125_0); (try clear hcz125_1); (try clear hcz134_0); (try clear hcz134_1); (try clear hcz139_0); (try clear hcz139_1); (try clear hcz14_0); (try clear hcz14_1); (try clear hcz34_0); (try clear hcz34_1); (try clear hcz41_0); (try clear hcz41_1); (try clear hcz46_0); (try clear hcz46_1); (try clear hcz61_0); (try clear hcz61_1); (try clear hcz69_0); (try clear hcz69_1); (try clear hcz73_0); (try clear hcz73_1); (try clear hcz80_0); (try clear hcz80_1); (try clear hcz85_0); (try clear hcz85_1); (try clear hcz87_0); (try clear hcz87_1); (try clear hcz92_0); (try clear hcz92_1); (try clear hcz94_0); (try clear hcz94_1); (try clear hfz100_0); (try clear hfz100_1); (try clear hfz102_0); (try clear hfz102_1); (try clear hfz106_0); (try clear hfz106_1); (try clear hfz108_0); (try clear hfz108_1); (try clear hfz10_0); (try clear hfz10_1); (try clear hfz116_0); (try clear hfz116_1); (try clear hfz121_0); (try clear hfz121_1); (try clear hfz125_0); (try clear hfz125_1); (try clear hfz134_0); (try clear hfz134_1); (try clear hfz139_0); (try clear hfz139_1); (try clear hfz14_0); (try clear hfz14_1); (try clear hfz34_0); (try clear hfz34_1); (try clear hfz41_0); (try clear hfz41_1); (try clear hfz46_0); (try clear hfz46_1); (try clear hfz61_0); (try clear hfz61_1); (try clear hfz69_0); (try clear hfz69_1); (try clear hfz73_0); (try clear hfz73_1); (try clear hfz80_0); (try clear hfz80_1); (try clear hfz85_0); (try clear hfz85_1); (try clear hfz87_0); (try clear hfz87_1); (try clear hfz92_0); (try clear hfz92_1); (try clear hfz94_0); (try clear hfz94_1); (try clear hx231_0); (try clear hx231_1); (try clear hx231_2); (try clear hx233_0); (try clear hx233_1); (try clear hx233_2); (try clear hx234_0); (try clear hx234_1); (try clear hx234_2); (try clear p2); (try clear p23); (try clear p231); (try clear p233); (try clear p234); (try clear p6); (try clear p64); (try clear q2); (try clear q23); (try clear q231); (try clear q233); (try clear q234)
                        obtain ⟨kq, x17_135, HA, HJ135, HO_11, HO_17, BK210, BK216, BK225, HB⟩ := hcut
                        cases kq with
                        | zero => exact absurd HA.out (by simp [lawMatches.j9])
                        | succ kj135 =>
                         have H := HA.out
                         clear HA
                         simp only [lawMatches.j9] at H
                         replace H := Option.bind_eq_some_iff.mp H
                         obtain ⟨⟨t264, t265⟩, A1470, H⟩ := H
                         replace H : (if t264 = 0 then (if t214 = 0 then ((linkhouseref8_SameProfile.f kj135 t211 x17_135).bind fun t266 => (if t266 = true then ((linkhouselaw8_sampled.f kj135).bind fun t267 => (some t267)) else (some false))) else (some false)) else ((linkhouseref7_At.f 10 (-3)).bind fun bt268 => (if (t214 == bt268.1 && (t215 == bt268.2)) = true then (if (t211.length : Int) = 0 then ((linkhouselaw8_sampled.f kj135).bind fun t270 => (some t270)) else (some false)) else (some false)))) = some r := H
                         have A147 := Aside0.mk A1470
                         clear A1470
                         by_cases c148 : t264 = 0
                         ·rw [if_pos c148] at H
                          have c148b0 : (t264 == 0) = true := beq_iff_eq.mpr c148
                          have c148b1 : (t264 != 0) = false := bne_eq_false_iff_eq.mpr c148
                          clear c148
                          by_cases c149 : t214 = 0
                          ·rw [if_pos c149] at H
                           have c149b0 : (t214 == 0) = true := beq_iff_eq.mpr c149
                           have c149b1 : (t214 != 0) = false := bne_eq_false_iff_eq.mpr c149
                           clear c149
                           replace H := Option.bind_eq_some_iff.mp H
                           obtain ⟨t266, A1500, H⟩ := H
                           replace H : (if t266 = true then ((linkhouselaw8_sampled.f kj135).bind fun t267 => (some t267)) else (some false)) = some r := H
                           have A150 := Aside0.mk A1500
                           clear A1500
                           by_cases c151 : t266 = true
                           ·subst c151
                            have H1 : ((linkhouselaw8_sampled.f kj135).bind fun t267 => (some t267)) = some r := by rw [if_pos rfl] at H; exact H
                            clear H
                            have H := H1
                            clear H1
                            replace H := Option.bind_eq_some_iff.mp H
                            obtain ⟨t267, A1520, H⟩ := H
                            replace H : (some t267) = some r := H
                            have A152 := Aside0.mk A1520
                            clear A1520
                            obtain rfl := Option.some.inj H
                            obtain ⟨Ao153, co153, eo153⟩ := Kd.R_slice HO_17.out
                            subst eo153
                            go_wp2_with (first | ((with_reducible refine gate_callee (f := 12) rfl ?_); refine goesL_ (some 161) rfl rfl Try.func12 (by kernel_rfl) rfl #[.slice Ao153 x17_135.length co153] rfl (by (try simp only [List.map_toArray, List.map_cons, List.map_nil]); first | done | rfl | (simp only [List.length_drop, List.length_take]; rfl)) ?_; (with_reducible refine (linkhouseref8_ProfileFault.calls kj135 _ _ x17_135 t264 t265 _ ?side1 ?side2 A147.out).mono ?_); (case side1 => repeat (first | exact (Kd.R_reads' HO_17.out).2.2 | (with_reducible refine Kd.C_alloc ?_ _) | (with_reducible refine Kd.C_drewN ?_ _) | (with_reducible refine Kd.C_drew ?_))); (case side2 => exact (Kd.R_reads' HO_17.out).2.1); rintro e w154 ⟨rfl, hb⟩; refine ⟨_, rfl, ?_⟩; have n0_ := Aside0.mk (Kd.R_below (by (with_reducible repeat (first | apply Kd.R_alloc | apply Kd.R_drewN | apply Kd.R_drew)); exact HO_11.out) hb); have n1_ := Aside0.mk (Kd.R_below (by (with_reducible repeat (first | apply Kd.R_alloc | apply Kd.R_drewN | apply Kd.R_drew)); exact HO_17.out) hb); have n2_ := Aside0.mk (blk_below (g := gb210) (o := .cells #[.int .i64 t208, .int .i64 t209] 25 (0, 0)) (by (with_reducible repeat (first | refine blk_drewN ?_ _ | refine blk_drew ?_ | refine blk_alloc ?_ _)); exact BK210.out) hb); have n3_ := Aside0.mk (blk_below (g := gb216) (o := .cells #[.int .i64 t214, .int .i64 t215] 25 (0, 0)) (by (with_reducible repeat (first | refine blk_drewN ?_ _ | refine blk_drew ?_ | refine blk_alloc ?_ _)); exact BK216.out) hb); have n4_ := Aside0.mk (blk_below (g := gb225) (o := .cells #[.int .i64 x226000_125, .int .i64 x226001_125] 25 (0, 0)) (by (with_reducible repeat (first | refine blk_drewN ?_ _ | refine blk_drew ?_ | refine blk_alloc ?_ _)); exact BK225.out) hb); have n5_ := Aside0.mk (below_step (by repeat (first | (with_reducible first | exact HB.out | apply below_alloc | apply pw_below_drewN | apply below_drew1 | refine below_set ?_ GE210.out | refine below_set ?_ GE216.out | refine below_set ?_ GE225.out) | exact HB.out)) hb); clear HO_11; clear HO_17; clear BK210; clear BK216; clear BK225; clear HB; have HO_11 := n0_; have HO_17 := n1_; have BK210 := n2_; have BK216 := n3_; have BK225 := n4_; have HB := n5_; clear n0_ n1_ n2_ n3_ n4_ n5_; (try clear hb); (try clear hb2); (try clear hk); (try clear hi); have hnb155 := NB216_210.out; have hnc155 := NB210_216.out; have hnb156 := NB216_225.out; have hnc156 := NB225_216.out; have hcz157_0 : w154.cell? ⟨gb216, 0, none⟩ = some (.int .i64 t214) := (blk_cell BK216.out 0).trans rfl; have hcz157_1 : w154.cell? ⟨gb216, 1, none⟩ = some (.int .i64 t215) := (blk_cell BK216.out 1).trans rfl; have hfz157_0 := blk_frozen BK216.out 0; have hfz157_1 := blk_frozen BK216.out 1; obtain ⟨Ao158, co158, eo158⟩ := Kd.R_slice HO_11.out; subst eo158) | (go_at_call 16; (with_reducible refine (linkhouseref8_SameProfile.calls kj135 _ _ t211 _ _ x17_135 true _ ?side1 ?side2 ?side3 ?side4 A150.out).mono ?_); (case side1 => repeat (first | exact (Kd.R_reads' HO_11.out).2.2 | (with_reducible refine Kd.C_alloc ?_ _) | (with_reducible refine Kd.C_drewN ?_ _) | (with_reducible refine Kd.C_drew ?_))); (case side2 => exact (Kd.R_reads' HO_11.out).2.1); (case side3 => repeat (first | exact (Kd.R_reads' HO_17.out).2.2 | (with_reducible refine Kd.C_alloc ?_ _) | (with_reducible refine Kd.C_drewN ?_ _) | (with_reducible refine Kd.C_drew ?_))); (case side4 => exact (Kd.R_reads' HO_17.out).2.1); rintro e w' ⟨rfl, ⟨nd, rfl⟩⟩) | (go_at_call 9; (with_reducible refine (linkhouselaw8_sampled.calls kj135  t267 _ A152.out).mono ?_); rintro e w159 ⟨rfl, hb⟩; have n0_ := Aside0.mk (Kd.R_below (by (with_reducible repeat (first | apply Kd.R_alloc | apply Kd.R_drewN | apply Kd.R_drew)); exact HO_11.out) hb); have n1_ := Aside0.mk (Kd.R_below (by (with_reducible repeat (first | apply Kd.R_alloc | apply Kd.R_drewN | apply Kd.R_drew)); exact HO_17.out) hb); have n2_ := Aside0.mk (blk_below (g := gb210) (o := .cells #[.int .i64 t208, .int .i64 t209] 25 (0, 0)) (by (with_reducible repeat (first | refine blk_drewN ?_ _ | refine blk_drew ?_ | refine blk_alloc ?_ _)); exact BK210.out) hb); have n3_ := Aside0.mk (blk_below (g := gb216) (o := .cells #[.int .i64 t214, .int .i64 t215] 25 (0, 0)) (by (with_reducible repeat (first | refine blk_drewN ?_ _ | refine blk_drew ?_ | refine blk_alloc ?_ _)); exact BK216.out) hb); have n4_ := Aside0.mk (blk_below (g := gb225) (o := .cells #[.int .i64 x226000_125, .int .i64 x226001_125] 25 (0, 0)) (by (with_reducible repeat (first | refine blk_drewN ?_ _ | refine blk_drew ?_ | refine blk_alloc ?_ _)); exact BK225.out) hb); have n5_ := Aside0.mk (below_step (by repeat (first | (with_reducible first | exact HB.out | apply below_alloc | apply pw_below_drewN | apply below_drew1 | refine below_set ?_ GE210.out | refine below_set ?_ GE216.out | refine below_set ?_ GE225.out) | exact HB.out)) hb); clear HO_11; clear HO_17; clear BK210; clear BK216; clear BK225; clear HB; have HO_11 := n0_; have HO_17 := n1_; have BK210 := n2_; have BK216 := n3_; have BK225 := n4_; have HB := n5_; clear n0_ n1_ n2_ n3_ n4_ n5_; (try clear hb); (try clear hb2); (try clear hk); (try clear hi)))
                            go_ret
                            exact ⟨by first | rfl | (simp [errW_none, errW_some] <;> rfl) | (simp [*, errW_none, errW_some] <;> rfl), by repeat (first | (with_reducible first | exact HB.out | apply below_alloc | apply pw_below_drewN | apply below_drew1 | refine below_set ?_ GE210.out | refine below_set ?_ GE216.out | refine below_set ?_ GE225.out) | exact HB.out)⟩
                           ·replace c151 := Bool.eq_false_iff.mpr c151
                            subst c151
                            have H1 : (some false) = some r := by rw [if_neg (show ¬ (false = true) by decide)] at H; exact H
                            clear H
                            have H := H1
                            clear H1
                            obtain rfl := Option.some.inj H
                            obtain ⟨Ao160, co160, eo160⟩ := Kd.R_slice HO_17.out
                            subst eo160
                            go_wp2_with (first | ((with_reducible refine gate_callee (f := 12) rfl ?_); refine goesL_ (some 161) rfl rfl Try.func12 (by kernel_rfl) rfl #[.slice Ao160 x17_135.length co160] rfl (by (try simp only [List.map_toArray, List.map_cons, List.map_nil]); first | done | rfl | (simp only [List.length_drop, List.length_take]; rfl)) ?_; (with_reducible refine (linkhouseref8_ProfileFault.calls kj135 _ _ x17_135 t264 t265 _ ?side1 ?side2 A147.out).mono ?_); (case side1 => repeat (first | exact (Kd.R_reads' HO_17.out).2.2 | (with_reducible refine Kd.C_alloc ?_ _) | (with_reducible refine Kd.C_drewN ?_ _) | (with_reducible refine Kd.C_drew ?_))); (case side2 => exact (Kd.R_reads' HO_17.out).2.1); rintro e w161 ⟨rfl, hb⟩; refine ⟨_, rfl, ?_⟩; have n0_ := Aside0.mk (Kd.R_below (by (with_reducible repeat (first | apply Kd.R_alloc | apply Kd.R_drewN | apply Kd.R_drew)); exact HO_11.out) hb); have n1_ := Aside0.mk (Kd.R_below (by (with_reducible repeat (first | apply Kd.R_alloc | apply Kd.R_drewN | apply Kd.R_drew)); exact HO_17.out) hb); have n2_ := Aside0.mk (blk_below (g := gb210) (o := .cells #[.int .i64 t208, .int .i64 t209] 25 (0, 0)) (by (with_reducible repeat (first | refine blk_drewN ?_ _ | refine blk_drew ?_ | refine blk_alloc ?_ _)); exact BK210.out) hb); have n3_ := Aside0.mk (blk_below (g := gb216) (o := .cells #[.int .i64 t214, .int .i64 t215] 25 (0, 0)) (by (with_reducible repeat (first | refine blk_drewN ?_ _ | refine blk_drew ?_ | refine blk_alloc ?_ _)); exact BK216.out) hb); have n4_ := Aside0.mk (blk_below (g := gb225) (o := .cells #[.int .i64 x226000_125, .int .i64 x226001_125] 25 (0, 0)) (by (with_reducible repeat (first | refine blk_drewN ?_ _ | refine blk_drew ?_ | refine blk_alloc ?_ _)); exact BK225.out) hb); have n5_ := Aside0.mk (below_step (by repeat (first | (with_reducible first | exact HB.out | apply below_alloc | apply pw_below_drewN | apply below_drew1 | refine below_set ?_ GE210.out | refine below_set ?_ GE216.out | refine below_set ?_ GE225.out) | exact HB.out)) hb); clear HO_11; clear HO_17; clear BK210; clear BK216; clear BK225; clear HB; have HO_11 := n0_; have HO_17 := n1_; have BK210 := n2_; have BK216 := n3_; have BK225 := n4_; have HB := n5_; clear n0_ n1_ n2_ n3_ n4_ n5_; (try clear hb); (try clear hb2); (try clear hk); (try clear hi); have hnb162 := NB216_210.out; have hnc162 := NB210_216.out; have hnb163 := NB216_225.out; have hnc163 := NB225_216.out; have hcz164_0 : w161.cell? ⟨gb216, 0, none⟩ = some (.int .i64 t214) := (blk_cell BK216.out 0).trans rfl; have hcz164_1 : w161.cell? ⟨gb216, 1, none⟩ = some (.int .i64 t215) := (blk_cell BK216.out 1).trans rfl; have hfz164_0 := blk_frozen BK216.out 0; have hfz164_1 := blk_frozen BK216.out 1; obtain ⟨Ao165, co165, eo165⟩ := Kd.R_slice HO_11.out; subst eo165) | (go_at_call 16; (with_reducible refine (linkhouseref8_SameProfile.calls kj135 _ _ t211 _ _ x17_135 false _ ?side1 ?side2 ?side3 ?side4 A150.out).mono ?_); (case side1 => repeat (first | exact (Kd.R_reads' HO_11.out).2.2 | (with_reducible refine Kd.C_alloc ?_ _) | (with_reducible refine Kd.C_drewN ?_ _) | (with_reducible refine Kd.C_drew ?_))); (case side2 => exact (Kd.R_reads' HO_11.out).2.1); (case side3 => repeat (first | exact (Kd.R_reads' HO_17.out).2.2 | (with_reducible refine Kd.C_alloc ?_ _) | (with_reducible refine Kd.C_drewN ?_ _) | (with_reducible refine Kd.C_drew ?_))); (case side4 => exact (Kd.R_reads' HO_17.out).2.1); rintro e w' ⟨rfl, ⟨nd, rfl⟩⟩))
                            go_ret
                            exact ⟨by first | rfl | (simp [errW_none, errW_some] <;> rfl) | (simp [*, errW_none, errW_some] <;> rfl), by repeat (first | (with_reducible first | exact HB.out | apply below_alloc | apply pw_below_drewN | apply below_drew1 | refine below_set ?_ GE210.out | refine below_set ?_ GE216.out | refine below_set ?_ GE225.out) | exact HB.out)⟩
                          ·rw [if_neg c149] at H
                           have c149b0 : (t214 == 0) = false := beq_eq_false_iff_ne.mpr c149
                           have c149b1 : (t214 != 0) = true := bne_iff_ne.mpr c149
                           obtain rfl := Option.some.inj H
                           obtain ⟨Ao166, co166, eo166⟩ := Kd.R_slice HO_17.out
                           subst eo166
                           go_wp2_with (first | ((with_reducible refine gate_callee (f := 12) rfl ?_); refine goesL_ (some 161) rfl rfl Try.func12 (by kernel_rfl) rfl #[.slice Ao166 x17_135.length co166] rfl (by (try simp only [List.map_toArray, List.map_cons, List.map_nil]); first | done | rfl | (simp only [List.length_drop, List.length_take]; rfl)) ?_; (with_reducible refine (linkhouseref8_ProfileFault.calls kj135 _ _ x17_135 t264 t265 _ ?side1 ?side2 A147.out).mono ?_); (case side1 => repeat (first | exact (Kd.R_reads' HO_17.out).2.2 | (with_reducible refine Kd.C_alloc ?_ _) | (with_reducible refine Kd.C_drewN ?_ _) | (with_reducible refine Kd.C_drew ?_))); (case side2 => exact (Kd.R_reads' HO_17.out).2.1); rintro e w167 ⟨rfl, hb⟩; refine ⟨_, rfl, ?_⟩; have n0_ := Aside0.mk (Kd.R_below (by (with_reducible repeat (first | apply Kd.R_alloc | apply Kd.R_drewN | apply Kd.R_drew)); exact HO_11.out) hb); have n1_ := Aside0.mk (Kd.R_below (by (with_reducible repeat (first | apply Kd.R_alloc | apply Kd.R_drewN | apply Kd.R_drew)); exact HO_17.out) hb); have n2_ := Aside0.mk (blk_below (g := gb210) (o := .cells #[.int .i64 t208, .int .i64 t209] 25 (0, 0)) (by (with_reducible repeat (first | refine blk_drewN ?_ _ | refine blk_drew ?_ | refine blk_alloc ?_ _)); exact BK210.out) hb); have n3_ := Aside0.mk (blk_below (g := gb216) (o := .cells #[.int .i64 t214, .int .i64 t215] 25 (0, 0)) (by (with_reducible repeat (first | refine blk_drewN ?_ _ | refine blk_drew ?_ | refine blk_alloc ?_ _)); exact BK216.out) hb); have n4_ := Aside0.mk (blk_below (g := gb225) (o := .cells #[.int .i64 x226000_125, .int .i64 x226001_125] 25 (0, 0)) (by (with_reducible repeat (first | refine blk_drewN ?_ _ | refine blk_drew ?_ | refine blk_alloc ?_ _)); exact BK225.out) hb); have n5_ := Aside0.mk (below_step (by repeat (first | (with_reducible first | exact HB.out | apply below_alloc | apply pw_below_drewN | apply below_drew1 | refine below_set ?_ GE210.out | refine below_set ?_ GE216.out | refine below_set ?_ GE225.out) | exact HB.out)) hb); clear HO_11; clear HO_17; clear BK210; clear BK216; clear BK225; clear HB; have HO_11 := n0_; have HO_17 := n1_; have BK210 := n2_; have BK216 := n3_; have BK225 := n4_; have HB := n5_; clear n0_ n1_ n2_ n3_ n4_ n5_; (try clear hb); (try clear hb2); (try clear hk); (try clear hi); have hnb168 := NB216_210.out; have hnc168 := NB210_216.out; have hnb169 := NB216_225.out; have hnc169 := NB225_216.out; have hcz170_0 : w167.cell? ⟨gb216, 0, none⟩ = some (.int .i64 t214) := (blk_cell BK216.out 0).trans rfl; have hcz170_1 : w167.cell? ⟨gb216, 1, none⟩ = some (.int .i64 t215) := (blk_cell BK216.out 1).trans rfl; have hfz170_0 := blk_frozen BK216.out 0; have hfz170_1 := blk_frozen BK216.out 1))
                           go_ret
                           exact ⟨by first | rfl | (simp [errW_none, errW_some] <;> rfl) | (simp [*, errW_none, errW_some] <;> rfl), by repeat (first | (with_reducible first | exact HB.out | apply below_alloc | apply pw_below_drewN | apply below_drew1 | refine below_set ?_ GE210.out | refine below_set ?_ GE216.out | refine below_set ?_ GE225.out) | exact HB.out)⟩
                         ·rw [if_neg c148] at H
                          have c148b0 : (t264 == 0) = false := beq_eq_false_iff_ne.mpr c148
                          have c148b1 : (t264 != 0) = true := bne_iff_ne.mpr c148
                          replace H := Option.bind_eq_some_iff.mp H
                          obtain ⟨⟨t268, t269⟩, A1710, H⟩ := H
                          replace H : (if (t214 == t268 && (t215 == t269)) = true then (if (t211.length : Int) = 0 then ((linkhouselaw8_sampled.f kj135).bind fun t270 => (some t270)) else (some false)) else (some false)) = some r := H
                          have A171 := Aside0.mk A1710
                          clear A1710
                          by_cases c172 : (t214 == t268 && (t215 == t269)) = true
                          ·rw [if_pos c172] at H
                           have c172b0 : (t214 == t268 && (t215 == t269)) = true := c172
                           (try (have c172b1 : decide (t214 = t268 && (t215 == t269)) = true := by simpa using c172))
                           (try (have c172b2 : (t214 == t268 && (t215 == t269)) = true := by simpa using c172))
                           clear c172
                           by_cases c173 : (t211.length : Int) = 0
                           ·rw [if_pos c173] at H
                            have c173b0 : ((t211.length : Int) == 0) = true := beq_iff_eq.mpr c173
                            have c173b1 : ((t211.length : Int) != 0) = false := bne_eq_false_iff_eq.mpr c173
                            clear c173
                            replace H := Option.bind_eq_some_iff.mp H
                            obtain ⟨t270, A1740, H⟩ := H
                            replace H : (some t270) = some r := H
                            have A174 := Aside0.mk A1740
                            clear A1740
                            obtain rfl := Option.some.inj H
                            obtain ⟨Ao175, co175, eo175⟩ := Kd.R_slice HO_17.out
                            subst eo175
                            try go_wp2_with (first | ((with_reducible refine gate_callee (f := 12) rfl ?_); refine goesL_ (some 161) rfl rfl Try.func12 (by kernel_rfl) rfl #[.slice Ao175 x17_135.length co175] rfl (by (try simp only [List.map_toArray, List.map_cons, List.map_nil]); first | done | rfl | (simp only [List.length_drop, List.length_take]; rfl)) ?_; (with_reducible refine (linkhouseref8_ProfileFault.calls kj135 _ _ x17_135 t264 t265 _ ?side1 ?side2 A147.out).mono ?_); (case side1 => repeat (first | exact (Kd.R_reads' HO_17.out).2.2 | (with_reducible refine Kd.C_alloc ?_ _) | (with_reducible refine Kd.C_drewN ?_ _) | (with_reducible refine Kd.C_drew ?_))); (case side2 => exact (Kd.R_reads' HO_17.out).2.1); rintro e w176 ⟨rfl, hb⟩; refine ⟨_, rfl, ?_⟩; have n0_ := Aside0.mk (Kd.R_below (by (with_reducible repeat (first | apply Kd.R_alloc | apply Kd.R_drewN | apply Kd.R_drew)); exact HO_11.out) hb); have n1_ := Aside0.mk (Kd.R_below (by (with_reducible repeat (first | apply Kd.R_alloc | apply Kd.R_drewN | apply Kd.R_drew)); exact HO_17.out) hb); have n2_ := Aside0.mk (blk_below (g := gb210) (o := .cells #[.int .i64 t208, .int .i64 t209] 25 (0, 0)) (by (with_reducible repeat (first | refine blk_drewN ?_ _ | refine blk_drew ?_ | refine blk_alloc ?_ _)); exact BK210.out) hb); have n3_ := Aside0.mk (blk_below (g := gb216) (o := .cells #[.int .i64 t214, .int .i64 t215] 25 (0, 0)) (by (with_reducible repeat (first | refine blk_drewN ?_ _ | refine blk_drew ?_ | refine blk_alloc ?_ _)); exact BK216.out) hb); have n4_ := Aside0.mk (blk_below (g := gb225) (o := .cells #[.int .i64 x226000_125, .int .i64 x226001_125] 25 (0, 0)) (by (with_reducible repeat (first | refine blk_drewN ?_ _ | refine blk_drew ?_ | refine blk_alloc ?_ _)); exact BK225.out) hb); have n5_ := Aside0.mk (below_step (by repeat (first | (with_reducible first | exact HB.out | apply below_alloc | apply pw_below_drewN | apply below_drew1 | refine below_set ?_ GE210.out | refine below_set ?_ GE216.out | refine below_set ?_ GE225.out) | exact HB.out)) hb); clear HO_11; clear HO_17; clear BK210; clear BK216; clear BK225; clear HB; have HO_11 := n0_; have HO_17 := n1_; have BK210 := n2_; have BK216 := n3_; have BK225 := n4_; have HB := n5_; clear n0_ n1_ n2_ n3_ n4_ n5_; (try clear hb); (try clear hb2); (try clear hk); (try clear hi)))
                            have n0_ := Aside0.mk (Kd.R_drew HO_11.out)
                            have n1_ := Aside0.mk (Kd.R_drew HO_17.out)
                            have n2_ := Aside0.mk (blk_drew BK210.out)
                            have n3_ := Aside0.mk (blk_drew BK216.out)
                            have n4_ := Aside0.mk (blk_drew BK225.out)
                            have n5_ := Aside0.mk (below_drew1 HB.out)
                            clear HO_11
                            clear HO_17
                            clear BK210
                            clear BK216
                            clear BK225
                            clear HB
                            have HO_11 := n0_
                            have HO_17 := n1_
                            have BK210 := n2_
                            have BK216 := n3_
                            have BK225 := n4_
                            have HB := n5_
                            clear n0_ n1_ n2_ n3_ n4_ n5_
                            refine start_ (n := 12) (S := fun w' => w'.cell? ⟨gb216, 0, none⟩ = some (.int .i64 t214) ∧ w'.cell? ⟨gb216, 1, none⟩ = some (.int .i64 t215)) (ds := []) #[false, false, false, false, false, false, false, false, false, false, false, false] (by kernel_rfl) rfl rfl ⟨(blk_cell BK216.out 0).trans rfl, (blk_cell BK216.out 1).trans rfl⟩ (fun hHeld => ?_); refine with_tabW lawMatches.tab33 lawMatches.bits33 (fun HT_ HW_ => ?_)
                            generalize w176.drew = w177 at HO_11 HO_17 BK210 BK216 BK225 HB hHeld ⊢
                            refine take_ (i := 0) (N := some 164) (v := ?_) (a' := ?_) #[true, false, false, false, false, false, false, false, false, false, false, false] rfl rfl (take_ofW HT_.out HW_.out (by kernel_rfl)) (fun _ _ _ h => h) (Or.inl ⟨by rfl, ?_⟩) hHeld ?_ ?_
                            rotate_left
                            ·rintro w' ⟨s0, s1⟩
                             go_simp
                             with_reducible rfl
                            rotate_left
                            ·simp only [Act.put, List.setIfInBounds_toArray, List.set_cons_zero, List.set_cons_succ, i64_w, i32_w]
                             rfl
                            refine one_ (i := 1) (N := some 165) #[true, true, false, false, false, false, false, false, false, false, false, false] rfl rfl (one_of HT_.out (by kernel_rfl)) (by decide) (fun K hK => ?_)
                            refine goes_ Try.func13 (by kernel_rfl) rfl #[.int .i64 10, .int .i64 (-3)] (by rfl) rfl rfl (by (try simp only [List.map_toArray, List.map_cons, List.map_nil]); first | done | rfl | (simp only [List.length_drop, List.length_take]; rfl)) ?_
                            with_reducible refine (linkhouseref7_At.calls 10 (-3) t268 t269 _ A171.out).mono ?_
                            rintro e w178 ⟨rfl, hb⟩
                            refine ⟨_, rfl, ?_⟩
                            have n0_ := Aside0.mk (Kd.R_below (by (with_reducible repeat (first | apply Kd.R_alloc | apply Kd.R_drewN | apply Kd.R_drew)); exact HO_11.out) hb)
                            have n1_ := Aside0.mk (Kd.R_below (by (with_reducible repeat (first | apply Kd.R_alloc | apply Kd.R_drewN | apply Kd.R_drew)); exact HO_17.out) hb)
                            have n2_ := Aside0.mk (blk_below (g := gb210) (o := .cells #[.int .i64 t208, .int .i64 t209] 25 (0, 0)) (by (with_reducible repeat (first | refine blk_drewN ?_ _ | refine blk_drew ?_ | refine blk_alloc ?_ _)); exact BK210.out) hb)
                            have n3_ := Aside0.mk (blk_below (g := gb216) (o := .cells #[.int .i64 t214, .int .i64 t215] 25 (0, 0)) (by (with_reducible repeat (first | refine blk_drewN ?_ _ | refine blk_drew ?_ | refine blk_alloc ?_ _)); exact BK216.out) hb)
                            have n4_ := Aside0.mk (blk_below (g := gb225) (o := .cells #[.int .i64 x226000_125, .int .i64 x226001_125] 25 (0, 0)) (by (with_reducible repeat (first | refine blk_drewN ?_ _ | refine blk_drew ?_ | refine blk_alloc ?_ _)); exact BK225.out) hb)
                            have n5_ := Aside0.mk (below_step (by repeat (first | (with_reducible first | exact HB.out | apply below_alloc | apply pw_below_drewN | apply below_drew1 | refine below_set ?_ GE210.out | refine below_set ?_ GE216.out | refine below_set ?_ GE225.out) | exact HB.out)) hb)
                            clear HO_11
                            clear HO_17
                            clear BK210
                            clear BK216
                            clear BK225
                            clear HB
                            have HO_11 := n0_
                            have HO_17 := n1_
                            have BK210 := n2_
                            have BK216 := n3_
                            have BK225 := n4_
                            have HB := n5_
                            clear n0_ n1_ n2_ n3_ n4_ n5_
                            (try clear hb)
                            (try clear hb2)
                            (try clear hk)
                            (try clear hi)
                            obtain ⟨Ao179, co179, eo179⟩ := Kd.R_slice HO_11.out
                            (first | subst eo179 | (injection eo179 with f1_ f2_ f3_; have f4_ := f1_.symm; have f5_ := f3_.symm; clear f1_ f2_ f3_; subst f4_; subst f5_))
                            refine hK.out _ _ ⟨(blk_cell BK216.out 0).trans rfl, (blk_cell BK216.out 1).trans rfl⟩ (fun hHeld => ?_)
                            clear hK K
                            refine norm_ (a' := ?_) ?_ ?_
                            rotate_left
                            ·show Act.put _ (some 165) _ = _
                             simp only [Act.put, List.setIfInBounds_toArray, List.set_cons_zero, List.set_cons_succ, i64_w, i32_w]
                             rfl
                            refine pure_ (i := 2) (N := some 166) (v := ?_) (a' := ?_) #[true, true, true, false, false, false, false, false, false, false, false, false] rfl rfl (any_of HT_.out (by kernel_rfl)) (fun _ _ _ h => h) (Or.inl ⟨by rfl, ?_⟩) ?_ ?_
                            rotate_left
                            ·intro w'
                             go_simp
                             with_reducible rfl
                            rotate_left
                            ·simp only [Act.put, List.setIfInBounds_toArray, List.set_cons_zero, List.set_cons_succ, i64_w, i32_w]
                             rfl
                            refine pure_ (i := 3) (N := some 167) (v := ?_) (a' := ?_) #[true, true, true, true, false, false, false, false, false, false, false, false] rfl rfl (any_of HT_.out (by kernel_rfl)) (fun _ _ _ h => h) (Or.inl ⟨by rfl, ?_⟩) ?_ ?_
                            rotate_left
                            ·intro w'
                             go_simp
                             with_reducible rfl
                            rotate_left
                            ·simp only [Act.put, List.setIfInBounds_toArray, List.set_cons_zero, List.set_cons_succ, i64_w, i32_w]
                             rfl
                            refine pure_ (i := 4) (N := some 168) (v := ?_) (a' := ?_) #[true, true, true, true, true, false, false, false, false, false, false, false] rfl rfl (any_of HT_.out (by kernel_rfl)) (fun _ _ _ h => h) (Or.inl ⟨by rfl, ?_⟩) ?_ ?_
                            rotate_left
                            ·intro w'
                             go_simp
                             with_reducible rfl
                            rotate_left
                            ·simp only [Act.put, List.setIfInBounds_toArray, List.set_cons_zero, List.set_cons_succ, i64_w, i32_w]
                             rfl
                            refine pure_ (i := 5) (N := some 169) (v := ?_) (a' := ?_) #[true, true, true, true, true, true, false, false, false, false, false, false] rfl rfl (any_of HT_.out (by kernel_rfl)) (fun _ _ _ h => h) (Or.inl ⟨by rfl, ?_⟩) ?_ ?_
                            rotate_left
                            ·intro w'
                             go_simp
                             with_reducible rfl
                            rotate_left
                            ·simp only [Act.put, List.setIfInBounds_toArray, List.set_cons_zero, List.set_cons_succ, i64_w, i32_w]
                             rfl
                            refine pure_ (i := 6) (N := some 170) (v := ?_) (a' := ?_) #[true, true, true, true, true, true, true, false, false, false, false, false] rfl rfl (any_of HT_.out (by kernel_rfl)) (fun _ _ _ h => h) (Or.inl ⟨by rfl, ?_⟩) ?_ ?_
                            rotate_left
                            ·intro w'
                             go_simp
                             with_reducible rfl
                            rotate_left
                            ·simp only [Act.put, List.setIfInBounds_toArray, List.set_cons_zero, List.set_cons_succ, i64_w, i32_w]
                             rfl
                            refine pure_ (i := 7) (N := some 171) (v := ?_) (a' := ?_) #[true, true, true, true, true, true, true, true, false, false, false, false] rfl rfl (any_of HT_.out (by kernel_rfl)) (fun _ _ _ h => h) (Or.inl ⟨by rfl, ?_⟩) ?_ ?_
                            rotate_left
                            ·intro w'
                             go_simp
                             with_reducible rfl
                            rotate_left
                            ·simp only [Act.put, List.setIfInBounds_toArray, List.set_cons_zero, List.set_cons_succ, i64_w, i32_w]
                             rfl
                            refine pure_ (i := 8) (N := some 172) (v := ?_) (a' := ?_) #[true, true, true, true, true, true, true, true, true, false, false, false] rfl rfl (any_of HT_.out (by kernel_rfl)) (fun _ _ _ h => h) (Or.inl ⟨by rfl, ?_⟩) ?_ ?_
                            rotate_left
                            ·intro w'
                             go_simp
                             with_reducible rfl
                            rotate_left
                            ·simp only [Act.put, List.setIfInBounds_toArray, List.set_cons_zero, List.set_cons_succ, i64_w, i32_w]
                             rfl
                            refine one_ (i := 9) (N := some 173) #[true, true, true, true, true, true, true, true, true, true, false, false] rfl rfl (one_of HT_.out (by kernel_rfl)) (by decide) (fun K hK => ?_)
                            refine goes_ Try.func9 (by kernel_rfl) rfl #[] (by rfl) rfl rfl (by (try simp only [List.map_toArray, List.map_cons, List.map_nil]); first | done | rfl | (simp only [List.length_drop, List.length_take]; rfl)) ?_
                            with_reducible refine (linkhouselaw8_sampled.calls kj135  t270 _ A174.out).mono ?_
                            rintro e w180 ⟨rfl, hb⟩
                            refine ⟨_, rfl, ?_⟩
                            have n0_ := Aside0.mk (Kd.R_below (by (with_reducible repeat (first | apply Kd.R_alloc | apply Kd.R_drewN | apply Kd.R_drew)); exact HO_11.out) hb)
                            have n1_ := Aside0.mk (Kd.R_below (by (with_reducible repeat (first | apply Kd.R_alloc | apply Kd.R_drewN | apply Kd.R_drew)); exact HO_17.out) hb)
                            have n2_ := Aside0.mk (blk_below (g := gb210) (o := .cells #[.int .i64 t208, .int .i64 t209] 25 (0, 0)) (by (with_reducible repeat (first | refine blk_drewN ?_ _ | refine blk_drew ?_ | refine blk_alloc ?_ _)); exact BK210.out) hb)
                            have n3_ := Aside0.mk (blk_below (g := gb216) (o := .cells #[.int .i64 t214, .int .i64 t215] 25 (0, 0)) (by (with_reducible repeat (first | refine blk_drewN ?_ _ | refine blk_drew ?_ | refine blk_alloc ?_ _)); exact BK216.out) hb)
                            have n4_ := Aside0.mk (blk_below (g := gb225) (o := .cells #[.int .i64 x226000_125, .int .i64 x226001_125] 25 (0, 0)) (by (with_reducible repeat (first | refine blk_drewN ?_ _ | refine blk_drew ?_ | refine blk_alloc ?_ _)); exact BK225.out) hb)
                            have n5_ := Aside0.mk (below_step (by repeat (first | (with_reducible first | exact HB.out | apply below_alloc | apply pw_below_drewN | apply below_drew1 | refine below_set ?_ GE210.out | refine below_set ?_ GE216.out | refine below_set ?_ GE225.out) | exact HB.out)) hb)
                            clear HO_11
                            clear HO_17
                            clear BK210
                            clear BK216
                            clear BK225
                            clear HB
                            have HO_11 := n0_
                            have HO_17 := n1_
                            have BK210 := n2_
                            have BK216 := n3_
                            have BK225 := n4_
                            have HB := n5_
                            clear n0_ n1_ n2_ n3_ n4_ n5_
                            (try clear hb)
                            (try clear hb2)
                            (try clear hk)
                            (try clear hi)
                            refine hK.out _ _ ⟨(blk_cell BK216.out 0).trans rfl, (blk_cell BK216.out 1).trans rfl⟩ (fun hHeld => ?_)
                            clear hK K
                            refine norm_ (a' := ?_) ?_ ?_
                            rotate_left
                            ·show Act.put _ (some 173) _ = _
                             simp only [Act.put, List.setIfInBounds_toArray, List.set_cons_zero, List.set_cons_succ, i64_w, i32_w]
                             rfl
                            refine pure_ (i := 10) (N := some 174) (v := ?_) (a' := ?_) #[true, true, true, true, true, true, true, true, true, true, true, false] rfl rfl (any_of HT_.out (by kernel_rfl)) (fun _ _ _ h => h) (Or.inl ⟨by rfl, ?_⟩) ?_ ?_
                            rotate_left
                            ·intro w'
                             go_simp
                             with_reducible rfl
                            rotate_left
                            ·simp only [Act.put, List.setIfInBounds_toArray, List.set_cons_zero, List.set_cons_succ, i64_w, i32_w]
                             rfl
                            refine pure_ (i := 11) (N := some 8) (v := ?_) (a' := ?_) #[true, true, true, true, true, true, true, true, true, true, true, true] rfl rfl (any_of HT_.out (by kernel_rfl)) (fun _ _ _ h => h) (Or.inl ⟨by rfl, ?_⟩) ?_ ?_
                            rotate_left
                            ·intro w'
                             go_simp
                             with_reducible rfl
                            rotate_left
                            ·simp only [Act.put, List.setIfInBounds_toArray, List.set_cons_zero, List.set_cons_succ, i64_w, i32_w]
                             rfl
                            refine done_ (done_of HT_.out (by kernel_rfl)) ?_
                            try go_wp2
                            go_ret
                            exact ⟨by first | rfl | (simp [errW_none, errW_some] <;> rfl) | (simp [*, errW_none, errW_some] <;> rfl), by repeat (first | (with_reducible first | exact HB.out | apply below_alloc | apply pw_below_drewN | apply below_drew1 | refine below_set ?_ GE210.out | refine below_set ?_ GE216.out | refine below_set ?_ GE225.out) | exact HB.out)⟩
                           ·rw [if_neg c173] at H
                            have c173b0 : ((t211.length : Int) == 0) = false := beq_eq_false_iff_ne.mpr c173
                            have c173b1 : ((t211.length : Int) != 0) = true := bne_iff_ne.mpr c173
                            have c173b2 : ¬ (t211 = []) := fun h_ => c173 (by rw [h_]; rfl)
                            obtain rfl := Option.some.inj H
                            obtain ⟨Ao181, co181, eo181⟩ := Kd.R_slice HO_17.out
                            subst eo181
                            try go_wp2_with (first | ((with_reducible refine gate_callee (f := 12) rfl ?_); refine goesL_ (some 161) rfl rfl Try.func12 (by kernel_rfl) rfl #[.slice Ao181 x17_135.length co181] rfl (by (try simp only [List.map_toArray, List.map_cons, List.map_nil]); first | done | rfl | (simp only [List.length_drop, List.length_take]; rfl)) ?_; (with_reducible refine (linkhouseref8_ProfileFault.calls kj135 _ _ x17_135 t264 t265 _ ?side1 ?side2 A147.out).mono ?_); (case side1 => repeat (first | exact (Kd.R_reads' HO_17.out).2.2 | (with_reducible refine Kd.C_alloc ?_ _) | (with_reducible refine Kd.C_drewN ?_ _) | (with_reducible refine Kd.C_drew ?_))); (case side2 => exact (Kd.R_reads' HO_17.out).2.1); rintro e w182 ⟨rfl, hb⟩; refine ⟨_, rfl, ?_⟩; have n0_ := Aside0.mk (Kd.R_below (by (with_reducible repeat (first | apply Kd.R_alloc | apply Kd.R_drewN | apply Kd.R_drew)); exact HO_11.out) hb); have n1_ := Aside0.mk (Kd.R_below (by (with_reducible repeat (first | apply Kd.R_alloc | apply Kd.R_drewN | apply Kd.R_drew)); exact HO_17.out) hb); have n2_ := Aside0.mk (blk_below (g := gb210) (o := .cells #[.int .i64 t208, .int .i64 t209] 25 (0, 0)) (by (with_reducible repeat (first | refine blk_drewN ?_ _ | refine blk_drew ?_ | refine blk_alloc ?_ _)); exact BK210.out) hb); have n3_ := Aside0.mk (blk_below (g := gb216) (o := .cells #[.int .i64 t214, .int .i64 t215] 25 (0, 0)) (by (with_reducible repeat (first | refine blk_drewN ?_ _ | refine blk_drew ?_ | refine blk_alloc ?_ _)); exact BK216.out) hb); have n4_ := Aside0.mk (blk_below (g := gb225) (o := .cells #[.int .i64 x226000_125, .int .i64 x226001_125] 25 (0, 0)) (by (with_reducible repeat (first | refine blk_drewN ?_ _ | refine blk_drew ?_ | refine blk_alloc ?_ _)); exact BK225.out) hb); have n5_ := Aside0.mk (below_step (by repeat (first | (with_reducible first | exact HB.out | apply below_alloc | apply pw_below_drewN | apply below_drew1 | refine below_set ?_ GE210.out | refine below_set ?_ GE216.out | refine below_set ?_ GE225.out) | exact HB.out)) hb); clear HO_11; clear HO_17; clear BK210; clear BK216; clear BK225; clear HB; have HO_11 := n0_; have HO_17 := n1_; have BK210 := n2_; have BK216 := n3_; have BK225 := n4_; have HB := n5_; clear n0_ n1_ n2_ n3_ n4_ n5_; (try clear hb); (try clear hb2); (try clear hk); (try clear hi)))
                            have n0_ := Aside0.mk (Kd.R_drew HO_11.out)
                            have n1_ := Aside0.mk (Kd.R_drew HO_17.out)
                            have n2_ := Aside0.mk (blk_drew BK210.out)
                            have n3_ := Aside0.mk (blk_drew BK216.out)
                            have n4_ := Aside0.mk (blk_drew BK225.out)
                            have n5_ := Aside0.mk (below_drew1 HB.out)
                            clear HO_11
                            clear HO_17
                            clear BK210
                            clear BK216
                            clear BK225
                            clear HB
                            have HO_11 := n0_
                            have HO_17 := n1_
                            have BK210 := n2_
                            have BK216 := n3_
                            have BK225 := n4_
                            have HB := n5_
                            clear n0_ n1_ n2_ n3_ n4_ n5_
                            refine start_ (n := 12) (S := fun w' => w'.cell? ⟨gb216, 0, none⟩ = some (.int .i64 t214) ∧ w'.cell? ⟨gb216, 1, none⟩ = some (.int .i64 t215)) (ds := []) #[false, false, false, false, false, false, false, false, false, false, false, false] (by kernel_rfl) rfl rfl ⟨(blk_cell BK216.out 0).trans rfl, (blk_cell BK216.out 1).trans rfl⟩ (fun hHeld => ?_); refine with_tabW lawMatches.tab33 lawMatches.bits33 (fun HT_ HW_ => ?_)
                            generalize w182.drew = w183 at HO_11 HO_17 BK210 BK216 BK225 HB hHeld ⊢
                            refine take_ (i := 0) (N := some 164) (v := ?_) (a' := ?_) #[true, false, false, false, false, false, false, false, false, false, false, false] rfl rfl (take_ofW HT_.out HW_.out (by kernel_rfl)) (fun _ _ _ h => h) (Or.inl ⟨by rfl, ?_⟩) hHeld ?_ ?_
                            rotate_left
                            ·rintro w' ⟨s0, s1⟩
                             go_simp
                             with_reducible rfl
                            rotate_left
                            ·simp only [Act.put, List.setIfInBounds_toArray, List.set_cons_zero, List.set_cons_succ, i64_w, i32_w]
                             rfl
                            refine one_ (i := 1) (N := some 165) #[true, true, false, false, false, false, false, false, false, false, false, false] rfl rfl (one_of HT_.out (by kernel_rfl)) (by decide) (fun K hK => ?_)
                            refine goes_ Try.func13 (by kernel_rfl) rfl #[.int .i64 10, .int .i64 (-3)] (by rfl) rfl rfl (by (try simp only [List.map_toArray, List.map_cons, List.map_nil]); first | done | rfl | (simp only [List.length_drop, List.length_take]; rfl)) ?_
                            with_reducible refine (linkhouseref7_At.calls 10 (-3) t268 t269 _ A171.out).mono ?_
                            rintro e w184 ⟨rfl, hb⟩
                            refine ⟨_, rfl, ?_⟩
                            have n0_ := Aside0.mk (Kd.R_below (by (with_reducible repeat (first | apply Kd.R_alloc | apply Kd.R_drewN | apply Kd.R_drew)); exact HO_11.out) hb)
                            have n1_ := Aside0.mk (Kd.R_below (by (with_reducible repeat (first | apply Kd.R_alloc | apply Kd.R_drewN | apply Kd.R_drew)); exact HO_17.out) hb)
                            have n2_ := Aside0.mk (blk_below (g := gb210) (o := .cells #[.int .i64 t208, .int .i64 t209] 25 (0, 0)) (by (with_reducible repeat (first | refine blk_drewN ?_ _ | refine blk_drew ?_ | refine blk_alloc ?_ _)); exact BK210.out) hb)
                            have n3_ := Aside0.mk (blk_below (g := gb216) (o := .cells #[.int .i64 t214, .int .i64 t215] 25 (0, 0)) (by (with_reducible repeat (first | refine blk_drewN ?_ _ | refine blk_drew ?_ | refine blk_alloc ?_ _)); exact BK216.out) hb)
                            have n4_ := Aside0.mk (blk_below (g := gb225) (o := .cells #[.int .i64 x226000_125, .int .i64 x226001_125] 25 (0, 0)) (by (with_reducible repeat (first | refine blk_drewN ?_ _ | refine blk_drew ?_ | refine blk_alloc ?_ _)); exact BK225.out) hb)
                            have n5_ := Aside0.mk (below_step (by repeat (first | (with_reducible first | exact HB.out | apply below_alloc | apply pw_below_drewN | apply below_drew1 | refine below_set ?_ GE210.out | refine below_set ?_ GE216.out | refine below_set ?_ GE225.out) | exact HB.out)) hb)
                            clear HO_11
                            clear HO_17
                            clear BK210
                            clear BK216
                            clear BK225
                            clear HB
                            have HO_11 := n0_
                            have HO_17 := n1_
                            have BK210 := n2_
                            have BK216 := n3_
                            have BK225 := n4_
                            have HB := n5_
                            clear n0_ n1_ n2_ n3_ n4_ n5_
                            (try clear hb)
                            (try clear hb2)
                            (try clear hk)
                            (try clear hi)
                            obtain ⟨Ao185, co185, eo185⟩ := Kd.R_slice HO_11.out
                            (first | subst eo185 | (injection eo185 with f1_ f2_ f3_; have f4_ := f1_.symm; have f5_ := f3_.symm; clear f1_ f2_ f3_; subst f4_; subst f5_))
                            refine hK.out _ _ ⟨(blk_cell BK216.out 0).trans rfl, (blk_cell BK216.out 1).trans rfl⟩ (fun hHeld => ?_)
                            clear hK K
                            refine norm_ (a' := ?_) ?_ ?_
                            rotate_left
                            ·show Act.put _ (some 165) _ = _
                             simp only [Act.put, List.setIfInBounds_toArray, List.set_cons_zero, List.set_cons_succ, i64_w, i32_w]
                             rfl
                            refine pure_ (i := 2) (N := some 166) (v := ?_) (a' := ?_) #[true, true, true, false, false, false, false, false, false, false, false, false] rfl rfl (any_of HT_.out (by kernel_rfl)) (fun _ _ _ h => h) (Or.inl ⟨by rfl, ?_⟩) ?_ ?_
                            rotate_left
                            ·intro w'
                             go_simp
                             with_reducible rfl
                            rotate_left
                            ·simp only [Act.put, List.setIfInBounds_toArray, List.set_cons_zero, List.set_cons_succ, i64_w, i32_w]
                             rfl
                            refine pure_ (i := 3) (N := some 167) (v := ?_) (a' := ?_) #[true, true, true, true, false, false, false, false, false, false, false, false] rfl rfl (any_of HT_.out (by kernel_rfl)) (fun _ _ _ h => h) (Or.inl ⟨by rfl, ?_⟩) ?_ ?_
                            rotate_left
                            ·intro w'
                             go_simp
                             with_reducible rfl
                            rotate_left
                            ·simp only [Act.put, List.setIfInBounds_toArray, List.set_cons_zero, List.set_cons_succ, i64_w, i32_w]
                             rfl
                            refine pure_ (i := 4) (N := some 168) (v := ?_) (a' := ?_) #[true, true, true, true, true, false, false, false, false, false, false, false] rfl rfl (any_of HT_.out (by kernel_rfl)) (fun _ _ _ h => h) (Or.inl ⟨by rfl, ?_⟩) ?_ ?_
                            rotate_left
                            ·intro w'
                             go_simp
                             with_reducible rfl
                            rotate_left
                            ·simp only [Act.put, List.setIfInBounds_toArray, List.set_cons_zero, List.set_cons_succ, i64_w, i32_w]
                             rfl
                            refine pure_ (i := 5) (N := some 169) (v := ?_) (a' := ?_) #[true, true, true, true, true, true, false, false, false, false, false, false] rfl rfl (any_of HT_.out (by kernel_rfl)) (fun _ _ _ h => h) (Or.inl ⟨by rfl, ?_⟩) ?_ ?_
                            rotate_left
                            ·intro w'
                             go_simp
                             with_reducible rfl
                            rotate_left
                            ·simp only [Act.put, List.setIfInBounds_toArray, List.set_cons_zero, List.set_cons_succ, i64_w, i32_w]
                             rfl
                            refine pure_ (i := 6) (N := some 170) (v := ?_) (a' := ?_) #[true, true, true, true, true, true, true, false, false, false, false, false] rfl rfl (any_of HT_.out (by kernel_rfl)) (fun _ _ _ h => h) (Or.inl ⟨by rfl, ?_⟩) ?_ ?_
                            rotate_left
                            ·intro w'
                             go_simp
                             with_reducible rfl
                            rotate_left
                            ·simp only [Act.put, List.setIfInBounds_toArray, List.set_cons_zero, List.set_cons_succ, i64_w, i32_w]
                             rfl
                            refine pure_ (i := 7) (N := some 171) (v := ?_) (a' := ?_) #[true, true, true, true, true, true, true, true, false, false, false, false] rfl rfl (any_of HT_.out (by kernel_rfl)) (fun _ _ _ h => h) (Or.inl ⟨by rfl, ?_⟩) ?_ ?_
                            rotate_left
                            ·intro w'
                             go_simp
                             with_reducible rfl
                            rotate_left
                            ·simp only [Act.put, List.setIfInBounds_toArray, List.set_cons_zero, List.set_cons_succ, i64_w, i32_w]
                             rfl
                            refine pure_ (i := 8) (N := some 172) (v := ?_) (a' := ?_) #[true, true, true, true, true, true, true, true, true, false, false, false] rfl rfl (any_of HT_.out (by kernel_rfl)) (fun _ _ _ h => h) (Or.inl ⟨by rfl, ?_⟩) ?_ ?_
                            rotate_left
                            ·intro w'
                             go_simp
                             with_reducible rfl
                            rotate_left
                            ·simp only [Act.put, List.setIfInBounds_toArray, List.set_cons_zero, List.set_cons_succ, i64_w, i32_w]
                             rfl
                            refine pure_ (i := 9) (N := some 173) (v := undef) (a' := ?_) #[true, true, true, true, true, true, true, true, true, true, false, false] rfl rfl (any_of HT_.out (by kernel_rfl)) (fun _ _ _ h => h) (Or.inr ⟨by rfl, rfl⟩) ?_ ?_
                            rotate_left
                            ·simp only [Act.put, List.setIfInBounds_toArray, List.set_cons_zero, List.set_cons_succ, i64_w, i32_w]
                             rfl
                            refine pure_ (i := 10) (N := some 174) (v := ?_) (a' := ?_) #[true, true, true, true, true, true, true, true, true, true, true, false] rfl rfl (any_of HT_.out (by kernel_rfl)) (fun _ _ _ h => h) (Or.inl ⟨by rfl, ?_⟩) ?_ ?_
                            rotate_left
                            ·intro w'
                             go_simp
                             with_reducible rfl
                            rotate_left
                            ·simp only [Act.put, List.setIfInBounds_toArray, List.set_cons_zero, List.set_cons_succ, i64_w, i32_w]
                             rfl
                            refine pure_ (i := 11) (N := some 8) (v := ?_) (a' := ?_) #[true, true, true, true, true, true, true, true, true, true, true, true] rfl rfl (any_of HT_.out (by kernel_rfl)) (fun _ _ _ h => h) (Or.inl ⟨by rfl, ?_⟩) ?_ ?_
                            rotate_left
                            ·intro w'
                             go_simp
                             with_reducible rfl
                            rotate_left
                            ·simp only [Act.put, List.setIfInBounds_toArray, List.set_cons_zero, List.set_cons_succ, i64_w, i32_w]
                             rfl
                            refine done_ (done_of HT_.out (by kernel_rfl)) ?_
                            try go_wp2
                            go_ret
                            exact ⟨by first | rfl | (simp [errW_none, errW_some] <;> rfl) | (simp [*, errW_none, errW_some] <;> rfl), by repeat (first | (with_reducible first | exact HB.out | apply below_alloc | apply pw_below_drewN | apply below_drew1 | refine below_set ?_ GE210.out | refine below_set ?_ GE216.out | refine below_set ?_ GE225.out) | exact HB.out)⟩
                          ·rw [if_neg c172] at H
                           have c172b0 : (t214 == t268 && (t215 == t269)) = false := by simpa using c172
                           (try (have c172b1 : decide (t214 = t268 && (t215 == t269)) = false := by simpa using c172))
                           (try (have c172b2 : (t214 == t268 && (t215 == t269)) = false := by simpa using c172))
                           (try (have c172b3 : ¬ (t214 = t268 && (t215 == t269)) := by simpa using c172))
                           clear c172
                           obtain rfl := Option.some.inj H
                           obtain ⟨Ao186, co186, eo186⟩ := Kd.R_slice HO_17.out
                           subst eo186
                           try go_wp2_with (first | ((with_reducible refine gate_callee (f := 12) rfl ?_); refine goesL_ (some 161) rfl rfl Try.func12 (by kernel_rfl) rfl #[.slice Ao186 x17_135.length co186] rfl (by (try simp only [List.map_toArray, List.map_cons, List.map_nil]); first | done | rfl | (simp only [List.length_drop, List.length_take]; rfl)) ?_; (with_reducible refine (linkhouseref8_ProfileFault.calls kj135 _ _ x17_135 t264 t265 _ ?side1 ?side2 A147.out).mono ?_); (case side1 => repeat (first | exact (Kd.R_reads' HO_17.out).2.2 | (with_reducible refine Kd.C_alloc ?_ _) | (with_reducible refine Kd.C_drewN ?_ _) | (with_reducible refine Kd.C_drew ?_))); (case side2 => exact (Kd.R_reads' HO_17.out).2.1); rintro e w187 ⟨rfl, hb⟩; refine ⟨_, rfl, ?_⟩; have n0_ := Aside0.mk (Kd.R_below (by (with_reducible repeat (first | apply Kd.R_alloc | apply Kd.R_drewN | apply Kd.R_drew)); exact HO_11.out) hb); have n1_ := Aside0.mk (Kd.R_below (by (with_reducible repeat (first | apply Kd.R_alloc | apply Kd.R_drewN | apply Kd.R_drew)); exact HO_17.out) hb); have n2_ := Aside0.mk (blk_below (g := gb210) (o := .cells #[.int .i64 t208, .int .i64 t209] 25 (0, 0)) (by (with_reducible repeat (first | refine blk_drewN ?_ _ | refine blk_drew ?_ | refine blk_alloc ?_ _)); exact BK210.out) hb); have n3_ := Aside0.mk (blk_below (g := gb216) (o := .cells #[.int .i64 t214, .int .i64 t215] 25 (0, 0)) (by (with_reducible repeat (first | refine blk_drewN ?_ _ | refine blk_drew ?_ | refine blk_alloc ?_ _)); exact BK216.out) hb); have n4_ := Aside0.mk (blk_below (g := gb225) (o := .cells #[.int .i64 x226000_125, .int .i64 x226001_125] 25 (0, 0)) (by (with_reducible repeat (first | refine blk_drewN ?_ _ | refine blk_drew ?_ | refine blk_alloc ?_ _)); exact BK225.out) hb); have n5_ := Aside0.mk (below_step (by repeat (first | (with_reducible first | exact HB.out | apply below_alloc | apply pw_below_drewN | apply below_drew1 | refine below_set ?_ GE210.out | refine below_set ?_ GE216.out | refine below_set ?_ GE225.out) | exact HB.out)) hb); clear HO_11; clear HO_17; clear BK210; clear BK216; clear BK225; clear HB; have HO_11 := n0_; have HO_17 := n1_; have BK210 := n2_; have BK216 := n3_; have BK225 := n4_; have HB := n5_; clear n0_ n1_ n2_ n3_ n4_ n5_; (try clear hb); (try clear hb2); (try clear hk); (try clear hi)))
                           have n0_ := Aside0.mk (Kd.R_drew HO_11.out)
                           have n1_ := Aside0.mk (Kd.R_drew HO_17.out)
                           have n2_ := Aside0.mk (blk_drew BK210.out)
                           have n3_ := Aside0.mk (blk_drew BK216.out)
                           have n4_ := Aside0.mk (blk_drew BK225.out)
                           have n5_ := Aside0.mk (below_drew1 HB.out)
                           clear HO_11
                           clear HO_17
                           clear BK210
                           clear BK216
                           clear BK225
                           clear HB
                           have HO_11 := n0_
                           have HO_17 := n1_
                           have BK210 := n2_
                           have BK216 := n3_
                           have BK225 := n4_
                           have HB := n5_
                           clear n0_ n1_ n2_ n3_ n4_ n5_
                           refine start_ (n := 12) (S := fun w' => w'.cell? ⟨gb216, 0, none⟩ = some (.int .i64 t214) ∧ w'.cell? ⟨gb216, 1, none⟩ = some (.int .i64 t215)) (ds := []) #[false, false, false, false, false, false, false, false, false, false, false, false] (by kernel_rfl) rfl rfl ⟨(blk_cell BK216.out 0).trans rfl, (blk_cell BK216.out 1).trans rfl⟩ (fun hHeld => ?_); refine with_tabW lawMatches.tab33 lawMatches.bits33 (fun HT_ HW_ => ?_)
                           generalize w187.drew = w188 at HO_11 HO_17 BK210 BK216 BK225 HB hHeld ⊢
                           refine take_ (i := 0) (N := some 164) (v := ?_) (a' := ?_) #[true, false, false, false, false, false, false, false, false, false, false, false] rfl rfl (take_ofW HT_.out HW_.out (by kernel_rfl)) (fun _ _ _ h => h) (Or.inl ⟨by rfl, ?_⟩) hHeld ?_ ?_
                           rotate_left
                           ·rintro w' ⟨s0, s1⟩
                            go_simp
                            with_reducible rfl
                           rotate_left
                           ·simp only [Act.put, List.setIfInBounds_toArray, List.set_cons_zero, List.set_cons_succ, i64_w, i32_w]
                            rfl
                           refine one_ (i := 1) (N := some 165) #[true, true, false, false, false, false, false, false, false, false, false, false] rfl rfl (one_of HT_.out (by kernel_rfl)) (by decide) (fun K hK => ?_)
                           refine goes_ Try.func13 (by kernel_rfl) rfl #[.int .i64 10, .int .i64 (-3)] (by rfl) rfl rfl (by (try simp only [List.map_toArray, List.map_cons, List.map_nil]); first | done | rfl | (simp only [List.length_drop, List.length_take]; rfl)) ?_
                           with_reducible refine (linkhouseref7_At.calls 10 (-3) t268 t269 _ A171.out).mono ?_
                           rintro e w189 ⟨rfl, hb⟩
                           refine ⟨_, rfl, ?_⟩
                           have n0_ := Aside0.mk (Kd.R_below (by (with_reducible repeat (first | apply Kd.R_alloc | apply Kd.R_drewN | apply Kd.R_drew)); exact HO_11.out) hb)
                           have n1_ := Aside0.mk (Kd.R_below (by (with_reducible repeat (first | apply Kd.R_alloc | apply Kd.R_drewN | apply Kd.R_drew)); exact HO_17.out) hb)
                           have n2_ := Aside0.mk (blk_below (g := gb210) (o := .cells #[.int .i64 t208, .int .i64 t209] 25 (0, 0)) (by (with_reducible repeat (first | refine blk_drewN ?_ _ | refine blk_drew ?_ | refine blk_alloc ?_ _)); exact BK210.out) hb)
                           have n3_ := Aside0.mk (blk_below (g := gb216) (o := .cells #[.int .i64 t214, .int .i64 t215] 25 (0, 0)) (by (with_reducible repeat (first | refine blk_drewN ?_ _ | refine blk_drew ?_ | refine blk_alloc ?_ _)); exact BK216.out) hb)
                           have n4_ := Aside0.mk (blk_below (g := gb225) (o := .cells #[.int .i64 x226000_125, .int .i64 x226001_125] 25 (0, 0)) (by (with_reducible repeat (first | refine blk_drewN ?_ _ | refine blk_drew ?_ | refine blk_alloc ?_ _)); exact BK225.out) hb)
                           have n5_ := Aside0.mk (below_step (by repeat (first | (with_reducible first | exact HB.out | apply below_alloc | apply pw_below_drewN | apply below_drew1 | refine below_set ?_ GE210.out | refine below_set ?_ GE216.out | refine below_set ?_ GE225.out) | exact HB.out)) hb)
                           clear HO_11
                           clear HO_17
                           clear BK210
                           clear BK216
                           clear BK225
                           clear HB
                           have HO_11 := n0_
                           have HO_17 := n1_
                           have BK210 := n2_
                           have BK216 := n3_
                           have BK225 := n4_
                           have HB := n5_
                           clear n0_ n1_ n2_ n3_ n4_ n5_
                           (try clear hb)
                           (try clear hb2)
                           (try clear hk)
                           (try clear hi)
                           refine hK.out _ _ ⟨(blk_cell BK216.out 0).trans rfl, (blk_cell BK216.out 1).trans rfl⟩ (fun hHeld => ?_)
                           clear hK K
                           refine norm_ (a' := ?_) ?_ ?_
                           rotate_left
                           ·show Act.put _ (some 165) _ = _
                            simp only [Act.put, List.setIfInBounds_toArray, List.set_cons_zero, List.set_cons_succ, i64_w, i32_w]
                            rfl
                           refine pure_ (i := 2) (N := some 166) (v := ?_) (a' := ?_) #[true, true, true, false, false, false, false, false, false, false, false, false] rfl rfl (any_of HT_.out (by kernel_rfl)) (fun _ _ _ h => h) (Or.inl ⟨by rfl, ?_⟩) ?_ ?_
                           rotate_left
                           ·intro w'
                            go_simp
                            with_reducible rfl
                           rotate_left
                           ·simp only [Act.put, List.setIfInBounds_toArray, List.set_cons_zero, List.set_cons_succ, i64_w, i32_w]
                            rfl
                           refine pure_ (i := 3) (N := some 167) (v := ?_) (a' := ?_) #[true, true, true, true, false, false, false, false, false, false, false, false] rfl rfl (any_of HT_.out (by kernel_rfl)) (fun _ _ _ h => h) (Or.inl ⟨by rfl, ?_⟩) ?_ ?_
                           rotate_left
                           ·intro w'
                            go_simp
                            with_reducible rfl
                           rotate_left
                           ·simp only [Act.put, List.setIfInBounds_toArray, List.set_cons_zero, List.set_cons_succ, i64_w, i32_w]
                            rfl
                           refine pure_ (i := 4) (N := some 168) (v := undef) (a' := ?_) #[true, true, true, true, true, false, false, false, false, false, false, false] rfl rfl (any_of HT_.out (by kernel_rfl)) (fun _ _ _ h => h) (Or.inr ⟨by rfl, rfl⟩) ?_ ?_
                           rotate_left
                           ·simp only [Act.put, List.setIfInBounds_toArray, List.set_cons_zero, List.set_cons_succ, i64_w, i32_w]
                            rfl
                           refine pure_ (i := 5) (N := some 169) (v := undef) (a' := ?_) #[true, true, true, true, true, true, false, false, false, false, false, false] rfl rfl (any_of HT_.out (by kernel_rfl)) (fun _ _ _ h => h) (Or.inr ⟨by rfl, rfl⟩) ?_ ?_
                           rotate_left
                           ·simp only [Act.put, List.setIfInBounds_toArray, List.set_cons_zero, List.set_cons_succ, i64_w, i32_w]
                            rfl
                           refine pure_ (i := 6) (N := some 170) (v := undef) (a' := ?_) #[true, true, true, true, true, true, true, false, false, false, false, false] rfl rfl (any_of HT_.out (by kernel_rfl)) (fun _ _ _ h => h) (Or.inr ⟨by rfl, rfl⟩) ?_ ?_
                           rotate_left
                           ·simp only [Act.put, List.setIfInBounds_toArray, List.set_cons_zero, List.set_cons_succ, i64_w, i32_w]
                            rfl
                           refine pure_ (i := 7) (N := some 171) (v := ?_) (a' := ?_) #[true, true, true, true, true, true, true, true, false, false, false, false] rfl rfl (any_of HT_.out (by kernel_rfl)) (fun _ _ _ h => h) (Or.inl ⟨by rfl, ?_⟩) ?_ ?_
                           rotate_left
                           ·intro w'
                            go_simp
                            with_reducible rfl
                           rotate_left
                           ·simp only [Act.put, List.setIfInBounds_toArray, List.set_cons_zero, List.set_cons_succ, i64_w, i32_w]
                            rfl
                           refine pure_ (i := 8) (N := some 172) (v := ?_) (a' := ?_) #[true, true, true, true, true, true, true, true, true, false, false, false] rfl rfl (any_of HT_.out (by kernel_rfl)) (fun _ _ _ h => h) (Or.inl ⟨by rfl, ?_⟩) ?_ ?_
                           rotate_left
                           ·intro w'
                            go_simp
                            with_reducible rfl
                           rotate_left
                           ·simp only [Act.put, List.setIfInBounds_toArray, List.set_cons_zero, List.set_cons_succ, i64_w, i32_w]
                            rfl
                           refine pure_ (i := 9) (N := some 173) (v := undef) (a' := ?_) #[true, true, true, true, true, true, true, true, true, true, false, false] rfl rfl (any_of HT_.out (by kernel_rfl)) (fun _ _ _ h => h) (Or.inr ⟨by rfl, rfl⟩) ?_ ?_
                           rotate_left
                           ·simp only [Act.put, List.setIfInBounds_toArray, List.set_cons_zero, List.set_cons_succ, i64_w, i32_w]
                            rfl
                           refine pure_ (i := 10) (N := some 174) (v := ?_) (a' := ?_) #[true, true, true, true, true, true, true, true, true, true, true, false] rfl rfl (any_of HT_.out (by kernel_rfl)) (fun _ _ _ h => h) (Or.inl ⟨by rfl, ?_⟩) ?_ ?_
                           rotate_left
                           ·intro w'
                            go_simp
                            with_reducible rfl
                           rotate_left
                           ·simp only [Act.put, List.setIfInBounds_toArray, List.set_cons_zero, List.set_cons_succ, i64_w, i32_w]
                            rfl
                           refine pure_ (i := 11) (N := some 8) (v := ?_) (a' := ?_) #[true, true, true, true, true, true, true, true, true, true, true, true] rfl rfl (any_of HT_.out (by kernel_rfl)) (fun _ _ _ h => h) (Or.inl ⟨by rfl, ?_⟩) ?_ ?_
                           rotate_left
                           ·intro w'
                            go_simp
                            with_reducible rfl
                           rotate_left
                           ·simp only [Act.put, List.setIfInBounds_toArray, List.set_cons_zero, List.set_cons_succ, i64_w, i32_w]
                            rfl
                           refine done_ (done_of HT_.out (by kernel_rfl)) ?_
                           try go_wp2
                           go_ret
                           exact ⟨by first | rfl | (simp [errW_none, errW_some] <;> rfl) | (simp [*, errW_none, errW_some] <;> rfl), by repeat (first | (with_reducible first | exact HB.out | apply below_alloc | apply pw_below_drewN | apply below_drew1 | refine below_set ?_ GE210.out | refine below_set ?_ GE216.out | refine below_set ?_ GE225.out) | exact HB.out)⟩
                      ·rw [if_neg c135] at H
                       have c135b0 : (x226000_125 == 0) = false := beq_eq_false_iff_ne.mpr c135
                       have c135b1 : (x226000_125 != 0) = true := bne_iff_ne.mpr c135
                       by_cases c190 : (t214 == x226000_125 && (t215 == x226001_125)) = true
                       ·rw [if_pos c190] at H
                        have c190b0 : (t214 == x226000_125 && (t215 == x226001_125)) = true := c190
                        (try (have c190b1 : decide (t214 = x226000_125 && (t215 == x226001_125)) = true := by simpa using c190))
                        (try (have c190b2 : (t214 == x226000_125 && (t215 == x226001_125)) = true := by simpa using c190))
                        clear c190
                        by_cases c191 : (t211.length : Int) = 0
                        ·rw [if_pos c191] at H
                         have c191b0 : ((t211.length : Int) == 0) = true := beq_iff_eq.mpr c191
                         have c191b1 : ((t211.length : Int) != 0) = false := bne_eq_false_iff_eq.mpr c191
                         clear c191
                         replace H := Option.bind_eq_some_iff.mp H
                         obtain ⟨t254, A1920, H⟩ := H
                         replace H : (some t254) = some r := H
                         have A192 := Aside0.mk A1920
                         clear A1920
                         obtain rfl := Option.some.inj H
                         have hnb193 := NB225_210.out
                         have hnc193 := NB210_225.out
                         have hnb194 := NB225_216.out
                         have hnc194 := NB216_225.out
                         have hcz195_0 : wc.cell? ⟨gb225, 0, none⟩ = some (.int .i64 x226000_125) := (blk_cell BK225.out 0).trans rfl
                         have hcz195_1 : wc.cell? ⟨gb225, 1, none⟩ = some (.int .i64 x226001_125) := (blk_cell BK225.out 1).trans rfl
                         have hfz195_0 := blk_frozen BK225.out 0
                         have hfz195_1 := blk_frozen BK225.out 1
                         have hnb196 := NB216_210.out
                         have hnc196 := NB210_216.out
                         have hcz197_0 : wc.cell? ⟨gb216, 0, none⟩ = some (.int .i64 t214) := (blk_cell BK216.out 0).trans rfl
                         have hcz197_1 : wc.cell? ⟨gb216, 1, none⟩ = some (.int .i64 t215) := (blk_cell BK216.out 1).trans rfl
                         have hfz197_0 := blk_frozen BK216.out 0
                         have hfz197_1 := blk_frozen BK216.out 1
                         obtain ⟨Ao198, co198, eo198⟩ := Kd.R_slice HO_11.out
                         subst eo198
                         go_wp2_with (first | (go_at_call 9; (with_reducible refine (linkhouselaw8_sampled.calls kj125  t254 _ A192.out).mono ?_); rintro e w199 ⟨rfl, hb⟩; have n0_ := Aside0.mk (Kd.R_below (by (with_reducible repeat (first | apply Kd.R_alloc | apply Kd.R_drewN | apply Kd.R_drew)); exact HO_11.out) hb); have n1_ := Aside0.mk (blk_below (g := gb210) (o := .cells #[.int .i64 t208, .int .i64 t209] 25 (0, 0)) (by (with_reducible repeat (first | refine blk_drewN ?_ _ | refine blk_drew ?_ | refine blk_alloc ?_ _)); exact BK210.out) hb); have n2_ := Aside0.mk (blk_below (g := gb216) (o := .cells #[.int .i64 t214, .int .i64 t215] 25 (0, 0)) (by (with_reducible repeat (first | refine blk_drewN ?_ _ | refine blk_drew ?_ | refine blk_alloc ?_ _)); exact BK216.out) hb); have n3_ := Aside0.mk (blk_below (g := gb225) (o := .cells #[.int .i64 x226000_125, .int .i64 x226001_125] 25 (0, 0)) (by (with_reducible repeat (first | refine blk_drewN ?_ _ | refine blk_drew ?_ | refine blk_alloc ?_ _)); exact BK225.out) hb); have n4_ := Aside0.mk (below_step (by repeat (first | (with_reducible first | exact HB.out | apply below_alloc | apply pw_below_drewN | apply below_drew1 | refine below_set ?_ GE210.out | refine below_set ?_ GE216.out | refine below_set ?_ GE225.out) | exact HB.out)) hb); clear HO_11; clear BK210; clear BK216; clear BK225; clear HB; have HO_11 := n0_; have BK210 := n1_; have BK216 := n2_; have BK225 := n3_; have HB := n4_; clear n0_ n1_ n2_ n3_ n4_; (try clear hb); (try clear hb2); (try clear hk); (try clear hi)))
                         go_ret
                         exact ⟨by first | rfl | (simp [errW_none, errW_some] <;> rfl) | (simp [*, errW_none, errW_some] <;> rfl), by repeat (first | (with_reducible first | exact HB.out | apply below_alloc | apply pw_below_drewN | apply below_drew1 | refine below_set ?_ GE210.out | refine below_set ?_ GE216.out | refine below_set ?_ GE225.out) | exact HB.out)⟩
                        ·rw [if_neg c191] at H
                         have c191b0 : ((t211.length : Int) == 0) = false := beq_eq_false_iff_ne.mpr c191
                         have c191b1 : ((t211.length : Int) != 0) = true := bne_iff_ne.mpr c191
                         have c191b2 : ¬ (t211 = []) := fun h_ => c191 (by rw [h_]; rfl)
                         obtain rfl := Option.some.inj H
                         have hnb200 := NB225_210.out
                         have hnc200 := NB210_225.out
                         have hnb201 := NB225_216.out
                         have hnc201 := NB216_225.out
                         have hcz202_0 : wc.cell? ⟨gb225, 0, none⟩ = some (.int .i64 x226000_125) := (blk_cell BK225.out 0).trans rfl
                         have hcz202_1 : wc.cell? ⟨gb225, 1, none⟩ = some (.int .i64 x226001_125) := (blk_cell BK225.out 1).trans rfl
                         have hfz202_0 := blk_frozen BK225.out 0
                         have hfz202_1 := blk_frozen BK225.out 1
                         have hnb203 := NB216_210.out
                         have hnc203 := NB210_216.out
                         have hcz204_0 : wc.cell? ⟨gb216, 0, none⟩ = some (.int .i64 t214) := (blk_cell BK216.out 0).trans rfl
                         have hcz204_1 : wc.cell? ⟨gb216, 1, none⟩ = some (.int .i64 t215) := (blk_cell BK216.out 1).trans rfl
                         have hfz204_0 := blk_frozen BK216.out 0
                         have hfz204_1 := blk_frozen BK216.out 1
                         obtain ⟨Ao205, co205, eo205⟩ := Kd.R_slice HO_11.out
                         subst eo205
                         go_wp2
                         go_ret
                         exact ⟨by first | rfl | (simp [errW_none, errW_some] <;> rfl) | (simp [*, errW_none, errW_some] <;> rfl), by repeat (first | (with_reducible first | exact HB.out | apply below_alloc | apply pw_below_drewN | apply below_drew1 | refine below_set ?_ GE210.out | refine below_set ?_ GE216.out | refine below_set ?_ GE225.out) | exact HB.out)⟩
                       ·rw [if_neg c190] at H
                        have c190b0 : (t214 == x226000_125 && (t215 == x226001_125)) = false := by simpa using c190
                        (try (have c190b1 : decide (t214 = x226000_125 && (t215 == x226001_125)) = false := by simpa using c190))
                        (try (have c190b2 : (t214 == x226000_125 && (t215 == x226001_125)) = false := by simpa using c190))
                        (try (have c190b3 : ¬ (t214 = x226000_125 && (t215 == x226001_125)) := by simpa using c190))
                        clear c190
                        obtain rfl := Option.some.inj H
                        have hnb206 := NB225_210.out
                        have hnc206 := NB210_225.out
                        have hnb207 := NB225_216.out
                        have hnc207 := NB216_225.out
                        have hcz208_0 : wc.cell? ⟨gb225, 0, none⟩ = some (.int .i64 x226000_125) := (blk_cell BK225.out 0).trans rfl
                        have hcz208_1 : wc.cell? ⟨gb225, 1, none⟩ = some (.int .i64 x226001_125) := (blk_cell BK225.out 1).trans rfl
                        have hfz208_0 := blk_frozen BK225.out 0
                        have hfz208_1 := blk_frozen BK225.out 1
                        have hnb209 := NB216_210.out
                        have hnc209 := NB210_216.out
                        have hcz210_0 : wc.cell? ⟨gb216, 0, none⟩ = some (.int .i64 t214) := (blk_cell BK216.out 0).trans rfl
                        have hcz210_1 : wc.cell? ⟨gb216, 1, none⟩ = some (.int .i64 t215) := (blk_cell BK216.out 1).trans rfl
                        have hfz210_0 := blk_frozen BK216.out 0
                        have hfz210_1 := blk_frozen BK216.out 1
                        go_wp2
                        go_ret
                        exact ⟨by first | rfl | (simp [errW_none, errW_some] <;> rfl) | (simp [*, errW_none, errW_some] <;> rfl), by repeat (first | (with_reducible first | exact HB.out | apply below_alloc | apply pw_below_drewN | apply below_drew1 | refine below_set ?_ GE210.out | refine below_set ?_ GE216.out | refine below_set ?_ GE225.out) | exact HB.out)⟩

end Go.Proofs.Ytjchmckbhfoopaa.PS
