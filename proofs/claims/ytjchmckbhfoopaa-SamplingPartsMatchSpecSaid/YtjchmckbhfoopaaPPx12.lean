/- Lean functions with the same answers as the Go functions that these laws use, and their contracts: each Go call comes to what its Lean function says. Conditions: those of each contract. Written by wip/xprint.py, this session's driver over the print program. -/
import Derived.Test.YtjchmckbhfoopaaPPx0
import Derived.Test.YtjchmckbhfoopaaPPx1
import Derived.Test.YtjchmckbhfoopaaPPx3
import Derived.Test.YtjchmckbhfoopaaPPx5
import Derived.Test.YtjchmckbhfoopaaPPx6
import Derived.Test.YtjchmckbhfoopaaPPx9
import Derived.Test.YtjchmckbhfoopaaPPx10
import Derived.Test.YtjchmckbhfoopaaPPx11
import Derived.Test.YtjchmckbhfoopaaPPadd
import Derived.Test.YtjchmckbhfoopaaPPcalls
namespace Go.Proofs.Ytjchmckbhfoopaa.PP
open Go.RowKit Go.Proofs.YtjchmckbhfoopaaW.PrintWords Go.Proofs.YtjchmckbhfoopaaW.PrintLast Go.Proofs.YtjchmckbhfoopaaW.PrintMore
attribute [local go_sem] max2_int min2_int max_two min_two max_three min_three max_four min_four   -- for this text's walks alone
set_option linter.unusedVariables false
set_option linter.unusedSimpArgs false
attribute [local go_sem high] fld25_0 fld25_1

attribute [local go_sem high] eqA25 eqA53
/-! ### lawParts: function 7 -/
mutual
def lawParts.j0 : Nat → List (S32) → List (S30) → List (S59) → List Int → List (S53) → Bool → Int → Int → Int → Int → Int → Int → Option (Bool)
 | 0, _, _, _, _, _, _, _, _, _, _, _, _ => none
 | k + 1, x0, x1, x2, x7, x9, x42, x191000, x191001, x197000, x197001, x200000, x200001 => if x42 = true then ((linkhouseref7_At.f 2 (-2)).bind fun bt200 => (lawParts.j1 k x0 x1 x2 x7 x9 x191000 x191001 x197000 x197001 bt200.1 bt200.2)) else (lawParts.j1 k x0 x1 x2 x7 x9 x191000 x191001 x197000 x197001 x200000 x200001)
def lawParts.j1 : Nat → List (S32) → List (S30) → List (S59) → List Int → List (S53) → Int → Int → Int → Int → Int → Int → Option (Bool)
 | 0, _, _, _, _, _, _, _, _, _, _, _ => none
 | k + 1, x0, x1, x2, x7, x9, x191000, x191001, x197000, x197001, x200000, x200001 => if x200000 = 0 then ((linkhouselaw8_placesFault.f k x2).bind fun bt202 => (lawParts.j2 k x0 x1 x2 x7 x9 x191000 x191001 x197000 x197001 bt202.1 bt202.2)) else (lawParts.j2 k x0 x1 x2 x7 x9 x191000 x191001 x197000 x197001 x200000 x200001)
def lawParts.j2 : Nat → List (S32) → List (S30) → List (S59) → List Int → List (S53) → Int → Int → Int → Int → Int → Int → Option (Bool)
 | 0, _, _, _, _, _, _, _, _, _, _, _ => none
 | k + 1, x0, x1, x2, x7, x9, x191000, x191001, x197000, x197001, x200000, x200001 => if (!(x191000 == x200000) || (!(x191001 == x200001))) = true then (lawParts.j3 k x0 x1 x2 x7 x9 true x197000 x197001 x200000 x200001) else (if x200000 = 0 then (lawParts.j3 k x0 x1 x2 x7 x9 ((x7.length : Int) != (x2.length : Int)) x197000 x197001 x200000 x200001) else (if (x7.length : Int) > 0 then (lawParts.j3 k x0 x1 x2 x7 x9 true x197000 x197001 x200000 x200001) else (lawParts.j3 k x0 x1 x2 x7 x9 false x197000 x197001 x200000 x200001)))
def lawParts.j3 : Nat → List (S32) → List (S30) → List (S59) → List Int → List (S53) → Bool → Int → Int → Int → Int → Option (Bool)
 | 0, _, _, _, _, _, _, _, _, _, _ => none
 | k + 1, x0, x1, x2, x7, x9, x73, x197000, x197001, x200000, x200001 => if x73 = true then (some false) else (lawParts.l0 k x0 x1 x2 x7 x9 0 x197000 x197001 x200000 x200001)
def lawParts.l0 : Nat → List (S32) → List (S30) → List (S59) → List Int → List (S53) → Int → Int → Int → Int → Int → Option (Bool)
 | 0, _, _, _, _, _, _, _, _, _, _ => none
 | k + 1, x0, x1, x2, x7, x9, x12, x197000, x197001, x200000, x200001 => if x12 < (x2.length : Int) then (lawParts.j5 k x0 x1 x2 x7 x9 x12 (x200000 == 0) x197000 x197001 x200000 x200001) else (lawParts.j5 k x0 x1 x2 x7 x9 x12 false x197000 x197001 x200000 x200001)
def lawParts.j5 : Nat → List (S32) → List (S30) → List (S59) → List Int → List (S53) → Int → Bool → Int → Int → Int → Int → Option (Bool)
 | 0, _, _, _, _, _, _, _, _, _, _, _ => none
 | k + 1, x0, x1, x2, x7, x9, x12, x82, x197000, x197001, x200000, x200001 => if x82 = true then (lawParts.l1 k x0 x1 x2 x7 x9 x12 0 0 x197000 x197001 x200000 x200001) else (if (x1.length : Int) > 10000 then ((linkhouseref7_At.f 2 (-1)).bind fun bt212 => (lawParts.j7 k x1 x2 x9 x197000 x197001 bt212.1 bt212.2)) else (if (x2.length : Int) > 60 then ((linkhouseref7_At.f 2 (-2)).bind fun bt214 => (lawParts.j7 k x1 x2 x9 x197000 x197001 bt214.1 bt214.2)) else (lawParts.j7 k x1 x2 x9 x197000 x197001 0 0)))
def lawParts.l1 : Nat → List (S32) → List (S30) → List (S59) → List Int → List (S53) → Int → Int → Int → Int → Int → Int → Int → Option (Bool)
 | 0, _, _, _, _, _, _, _, _, _, _, _, _ => none
 | k + 1, x0, x1, x2, x7, x9, x12, x13, x14, x197000, x197001, x200000, x200001 => if x14 < (x0.length : Int) then (if 0 ≤ x12 then (if x12 ≤ (wrap64 (x12 + 1)) then (if (wrap64 (x12 + 1)) ≤ (x2.length : Int) then (if 0 ≤ x14 then ((linkhouseref8_PartOf.f k ((x2.take ((wrap64 (x12 + 1)) : Int).toNat).drop (x12 : Int).toNat) ((rd_T32 x0 x14).f0)).bind fun t209 => (if t209 = 0 then (lawParts.l1 k x0 x1 x2 x7 x9 x12 (wrap64 (x13 + ((rd_T32 x0 x14).f1))) (wrap64 (x14 + 1)) x197000 x197001 x200000 x200001) else (lawParts.l1 k x0 x1 x2 x7 x9 x12 x13 (wrap64 (x14 + 1)) x197000 x197001 x200000 x200001))) else (none)) else (none)) else (none)) else (none)) else (if 0 ≤ x12 then (if x12 < (x7.length : Int) then (if (rd x7 x12) = x13 then (lawParts.l0 k x0 x1 x2 x7 x9 (wrap64 (x12 + 1)) x197000 x197001 x200000 x200001) else (some false)) else (none)) else (none))
def lawParts.j7 : Nat → List (S30) → List (S59) → List (S53) → Int → Int → Int → Int → Option (Bool)
 | 0, _, _, _, _, _, _, _ => none
 | k + 1, x1, x2, x9, x197000, x197001, x200000, x200001 => if x200000 = 0 then ((linkhouselaw8_placesFault.f k x2).bind fun bt216 => (lawParts.j8 k x1 x2 x9 x197000 x197001 bt216.1 bt216.2)) else (lawParts.j8 k x1 x2 x9 x197000 x197001 x200000 x200001)
def lawParts.j8 : Nat → List (S30) → List (S59) → List (S53) → Int → Int → Int → Int → Option (Bool)
 | 0, _, _, _, _, _, _, _ => none
 | k + 1, x1, x2, x9, x197000, x197001, x200000, x200001 => lawParts.l2 k x1 x2 x9 0 x197000 x197001 x200000 x200001
def lawParts.l2 : Nat → List (S30) → List (S59) → List (S53) → Int → Int → Int → Int → Int → Option (Bool)
 | 0, _, _, _, _, _, _, _, _ => none
 | k + 1, x1, x2, x9, x15, x197000, x197001, x200000, x200001 => if x15 < (x1.length : Int) then (lawParts.j10 k x1 x2 x9 x15 (x200000 == 0) x197000 x197001 x200000 x200001) else (lawParts.j10 k x1 x2 x9 x15 false x197000 x197001 x200000 x200001)
def lawParts.j10 : Nat → List (S30) → List (S59) → List (S53) → Int → Bool → Int → Int → Int → Int → Option (Bool)
 | 0, _, _, _, _, _, _, _, _, _ => none
 | k + 1, x1, x2, x9, x15, x138, x197000, x197001, x200000, x200001 => if x138 = true then (if 0 ≤ x15 then (if x15 < (x1.length : Int) then ((linkhouseref7_In.f ((rd_T30 x1 x15).f0) 0 3).bind fun t219 => (if t219 = true then ((linkhouseref7_In.f ((rd_T30 x1 x15).f1) (-1) 1048575).bind fun t221 => (if t221 = true then (lawParts.l2 k x1 x2 x9 (wrap64 (x15 + 1)) x197000 x197001 x200000 x200001) else ((linkhouseref7_At.f 3 x15).bind fun bt222 => (lawParts.l2 k x1 x2 x9 (wrap64 (x15 + 1)) x197000 x197001 bt222.1 bt222.2)))) else ((linkhouseref7_At.f 3 x15).bind fun bt224 => (lawParts.l2 k x1 x2 x9 (wrap64 (x15 + 1)) x197000 x197001 bt224.1 bt224.2)))) else (none)) else (none)) else (if x200000 = 0 then (lawParts.j11 k x1 x2 x9 (decide ((x2.length : Int) > 8)) x197000 x197001 x200000 x200001) else (lawParts.j11 k x1 x2 x9 false x197000 x197001 x200000 x200001))
def lawParts.j11 : Nat → List (S30) → List (S59) → List (S53) → Bool → Int → Int → Int → Int → Option (Bool)
 | 0, _, _, _, _, _, _, _, _ => none
 | k + 1, x1, x2, x9, x166, x197000, x197001, x200000, x200001 => if x166 = true then ((linkhouselaw8_sampled.f k).bind fun t226 => (some t226)) else (lawParts.l3 k x1 x2 x9 ([] : List (S53)) 0 x197000 x197001 x200000 x200001)
def lawParts.l3 : Nat → List (S30) → List (S59) → List (S53) → List (S53) → Int → Int → Int → Int → Int → Option (Bool)
 | 0, _, _, _, _, _, _, _, _, _ => none
 | k + 1, x1, x2, x9, x16, x17, x197000, x197001, x200000, x200001 => if x17 < (x2.length : Int) then (lawParts.j13 k x1 x2 x9 x16 x17 (x200000 == 0) x197000 x197001 x200000 x200001) else (lawParts.j13 k x1 x2 x9 x16 x17 false x197000 x197001 x200000 x200001)
def lawParts.j13 : Nat → List (S30) → List (S59) → List (S53) → List (S53) → Int → Bool → Int → Int → Int → Int → Option (Bool)
 | 0, _, _, _, _, _, _, _, _, _, _ => none
 | k + 1, x1, x2, x9, x16, x17, x176, x197000, x197001, x200000, x200001 => if x176 = true then (lawParts.l4 k x1 x2 x9 x16 x17 0 x197000 x197001 x200000 x200001) else (if (!(x197000 == x200000) || (!(x197001 == x200001))) = true then (lawParts.j15 k x9 x16 true) else (lawParts.j15 k x9 x16 ((x9.length : Int) != (x16.length : Int))))
def lawParts.l4 : Nat → List (S30) → List (S59) → List (S53) → List (S53) → Int → Int → Int → Int → Int → Int → Option (Bool)
 | 0, _, _, _, _, _, _, _, _, _, _ => none
 | k + 1, x1, x2, x9, x16, x17, x18, x197000, x197001, x200000, x200001 => if x18 < (x2.length : Int) then ((linkhouseref8_CallsOf.f k x1 x2 x17 x18).bind fun t227 => (if x17 = x18 then (lawParts.l4 k x1 x2 x9 x16 x17 (wrap64 (x18 + 1)) x197000 x197001 x200000 x200001) else (if t227 > 0 then (if x16.length < 5864062014805 then (lawParts.l4 k x1 x2 x9 (x16 ++ [(⟨x17, x18, t227⟩ : S53)]) x17 (wrap64 (x18 + 1)) x197000 x197001 x200000 x200001) else (none)) else (lawParts.l4 k x1 x2 x9 x16 x17 (wrap64 (x18 + 1)) x197000 x197001 x200000 x200001)))) else (lawParts.l3 k x1 x2 x9 x16 (wrap64 (x17 + 1)) x197000 x197001 x200000 x200001)
def lawParts.j15 : Nat → List (S53) → List (S53) → Bool → Option (Bool)
 | 0, _, _, _ => none
 | k + 1, x9, x16, x213 => if x213 = true then (some false) else (lawParts.l5 k x9 x16 0)
def lawParts.l5 : Nat → List (S53) → List (S53) → Int → Option (Bool)
 | 0, _, _, _ => none
 | k + 1, x9, x16, x20 => if x20 < (x9.length : Int) then (if 0 ≤ x20 then (if x20 < (x16.length : Int) then (if (!(((rd_T53 x9 x20).f0) == ((rd_T53 x16 x20).f0)) || (!(((rd_T53 x9 x20).f1) == ((rd_T53 x16 x20).f1)) || (!(((rd_T53 x9 x20).f2) == ((rd_T53 x16 x20).f2))))) = true then (some false) else (lawParts.l5 k x9 x16 (wrap64 (x20 + 1)))) else (none)) else (none)) else ((linkhouselaw8_sampled.f k).bind fun t233 => (some t233))
end
def lawParts.f (k : Nat) (l0 : List (S32)) (l1 : List (S30)) (l2 : List (S59)) : Option (Bool) := (sampling_Parts.f k l0 l2).bind fun bt185 => ((sampling_Calls.f l1 l2).bind fun bt191 => ((linkhouseref8_ProfileFault.f k l0).bind fun bt197 => (if bt197.1 = 0 then (lawParts.j0 k l0 l1 l2 bt185.1 bt191.1 (decide ((l2.length : Int) > 256)) bt185.2.1 bt185.2.2 bt191.2.1 bt191.2.2 bt197.1 bt197.2) else (lawParts.j0 k l0 l1 l2 bt185.1 bt191.1 false bt185.2.1 bt185.2.2 bt191.2.1 bt191.2.2 bt197.1 bt197.2))))
theorem lawParts.mono_l : ∀ k, (∀ y0 y1 y2 y3 y4 y5 y6 y7 y8 y9 y10 y11, LeO (lawParts.j0 k y0 y1 y2 y3 y4 y5 y6 y7 y8 y9 y10 y11) (lawParts.j0 (k + 1) y0 y1 y2 y3 y4 y5 y6 y7 y8 y9 y10 y11)) ∧ (∀ y0 y1 y2 y3 y4 y5 y6 y7 y8 y9 y10, LeO (lawParts.j1 k y0 y1 y2 y3 y4 y5 y6 y7 y8 y9 y10) (lawParts.j1 (k + 1) y0 y1 y2 y3 y4 y5 y6 y7 y8 y9 y10)) ∧ (∀ y0 y1 y2 y3 y4 y5 y6 y7 y8 y9 y10, LeO (lawParts.j2 k y0 y1 y2 y3 y4 y5 y6 y7 y8 y9 y10) (lawParts.j2 (k + 1) y0 y1 y2 y3 y4 y5 y6 y7 y8 y9 y10)) ∧ (∀ y0 y1 y2 y3 y4 y5 y6 y7 y8 y9, LeO (lawParts.j3 k y0 y1 y2 y3 y4 y5 y6 y7 y8 y9) (lawParts.j3 (k + 1) y0 y1 y2 y3 y4 y5 y6 y7 y8 y9)) ∧ (∀ y0 y1 y2 y3 y4 y5 y6 y7 y8 y9, LeO (lawParts.l0 k y0 y1 y2 y3 y4 y5 y6 y7 y8 y9) (lawParts.l0 (k + 1) y0 y1 y2 y3 y4 y5 y6 y7 y8 y9)) ∧ (∀ y0 y1 y2 y3 y4 y5 y6 y7 y8 y9 y10, LeO (lawParts.j5 k y0 y1 y2 y3 y4 y5 y6 y7 y8 y9 y10) (lawParts.j5 (k + 1) y0 y1 y2 y3 y4 y5 y6 y7 y8 y9 y10)) ∧ (∀ y0 y1 y2 y3 y4 y5 y6 y7 y8 y9 y10 y11, LeO (lawParts.l1 k y0 y1 y2 y3 y4 y5 y6 y7 y8 y9 y10 y11) (lawParts.l1 (k + 1) y0 y1 y2 y3 y4 y5 y6 y7 y8 y9 y10 y11)) ∧ (∀ y0 y1 y2 y3 y4 y5 y6, LeO (lawParts.j7 k y0 y1 y2 y3 y4 y5 y6) (lawParts.j7 (k + 1) y0 y1 y2 y3 y4 y5 y6)) ∧ (∀ y0 y1 y2 y3 y4 y5 y6, LeO (lawParts.j8 k y0 y1 y2 y3 y4 y5 y6) (lawParts.j8 (k + 1) y0 y1 y2 y3 y4 y5 y6)) ∧ (∀ y0 y1 y2 y3 y4 y5 y6 y7, LeO (lawParts.l2 k y0 y1 y2 y3 y4 y5 y6 y7) (lawParts.l2 (k + 1) y0 y1 y2 y3 y4 y5 y6 y7)) ∧ (∀ y0 y1 y2 y3 y4 y5 y6 y7 y8, LeO (lawParts.j10 k y0 y1 y2 y3 y4 y5 y6 y7 y8) (lawParts.j10 (k + 1) y0 y1 y2 y3 y4 y5 y6 y7 y8)) ∧ (∀ y0 y1 y2 y3 y4 y5 y6 y7, LeO (lawParts.j11 k y0 y1 y2 y3 y4 y5 y6 y7) (lawParts.j11 (k + 1) y0 y1 y2 y3 y4 y5 y6 y7)) ∧ (∀ y0 y1 y2 y3 y4 y5 y6 y7 y8, LeO (lawParts.l3 k y0 y1 y2 y3 y4 y5 y6 y7 y8) (lawParts.l3 (k + 1) y0 y1 y2 y3 y4 y5 y6 y7 y8)) ∧ (∀ y0 y1 y2 y3 y4 y5 y6 y7 y8 y9, LeO (lawParts.j13 k y0 y1 y2 y3 y4 y5 y6 y7 y8 y9) (lawParts.j13 (k + 1) y0 y1 y2 y3 y4 y5 y6 y7 y8 y9)) ∧ (∀ y0 y1 y2 y3 y4 y5 y6 y7 y8 y9, LeO (lawParts.l4 k y0 y1 y2 y3 y4 y5 y6 y7 y8 y9) (lawParts.l4 (k + 1) y0 y1 y2 y3 y4 y5 y6 y7 y8 y9)) ∧ (∀ y0 y1 y2, LeO (lawParts.j15 k y0 y1 y2) (lawParts.j15 (k + 1) y0 y1 y2)) ∧ (∀ y0 y1 y2, LeO (lawParts.l5 k y0 y1 y2) (lawParts.l5 (k + 1) y0 y1 y2))
 | 0 => ⟨fun _ _ _ _ _ _ _ _ _ _ _ _ r h => by simp [lawParts.j0] at h, fun _ _ _ _ _ _ _ _ _ _ _ r h => by simp [lawParts.j1] at h, fun _ _ _ _ _ _ _ _ _ _ _ r h => by simp [lawParts.j2] at h, fun _ _ _ _ _ _ _ _ _ _ r h => by simp [lawParts.j3] at h, fun _ _ _ _ _ _ _ _ _ _ r h => by simp [lawParts.l0] at h, fun _ _ _ _ _ _ _ _ _ _ _ r h => by simp [lawParts.j5] at h, fun _ _ _ _ _ _ _ _ _ _ _ _ r h => by simp [lawParts.l1] at h, fun _ _ _ _ _ _ _ r h => by simp [lawParts.j7] at h, fun _ _ _ _ _ _ _ r h => by simp [lawParts.j8] at h, fun _ _ _ _ _ _ _ _ r h => by simp [lawParts.l2] at h, fun _ _ _ _ _ _ _ _ _ r h => by simp [lawParts.j10] at h, fun _ _ _ _ _ _ _ _ r h => by simp [lawParts.j11] at h, fun _ _ _ _ _ _ _ _ _ r h => by simp [lawParts.l3] at h, fun _ _ _ _ _ _ _ _ _ _ r h => by simp [lawParts.j13] at h, fun _ _ _ _ _ _ _ _ _ _ r h => by simp [lawParts.l4] at h, fun _ _ _ r h => by simp [lawParts.j15] at h, fun _ _ _ r h => by simp [lawParts.l5] at h⟩
 | k + 1 => by
  obtain ⟨ih0, ih1, ih2, ih3, ih4, ih5, ih6, ih7, ih8, ih9, ih10, ih11, ih12, ih13, ih14, ih15, ih16⟩ := lawParts.mono_l k
  refine ⟨?_, ?_, ?_, ?_, ?_, ?_, ?_, ?_, ?_, ?_, ?_, ?_, ?_, ?_, ?_, ?_, ?_⟩
  ·intro y0 y1 y2 y3 y4 y5 y6 y7 y8 y9 y10 y11
   unfold lawParts.j0
   repeat' first
   | (with_reducible exact ih0 _ _ _ _ _ _ _ _ _ _ _ _)
   | (with_reducible exact ih1 _ _ _ _ _ _ _ _ _ _ _)
   | (with_reducible exact ih2 _ _ _ _ _ _ _ _ _ _ _)
   | (with_reducible exact ih3 _ _ _ _ _ _ _ _ _ _)
   | (with_reducible exact ih4 _ _ _ _ _ _ _ _ _ _)
   | (with_reducible exact ih5 _ _ _ _ _ _ _ _ _ _ _)
   | (with_reducible exact ih6 _ _ _ _ _ _ _ _ _ _ _ _)
   | (with_reducible exact ih7 _ _ _ _ _ _ _)
   | (with_reducible exact ih8 _ _ _ _ _ _ _)
   | (with_reducible exact ih9 _ _ _ _ _ _ _ _)
   | (with_reducible exact ih10 _ _ _ _ _ _ _ _ _)
   | (with_reducible exact ih11 _ _ _ _ _ _ _ _)
   | (with_reducible exact ih12 _ _ _ _ _ _ _ _ _)
   | (with_reducible exact ih13 _ _ _ _ _ _ _ _ _ _)
   | (with_reducible exact ih14 _ _ _ _ _ _ _ _ _ _)
   | (with_reducible exact ih15 _ _ _)
   | (with_reducible exact ih16 _ _ _)
   | (with_reducible exact linkhouselaw8_placesFault.mono _ _)
   | (with_reducible exact linkhouselaw8_sampled.mono _)
   | (with_reducible exact linkhouseref8_CallsOf.mono _ _ _ _ _)
   | (with_reducible exact linkhouseref8_PartOf.mono _ _ _)
   | (with_reducible exact linkhouseref8_ProfileFault.mono _ _)
   | (with_reducible exact sampling_Parts.mono _ _ _)
   | (with_reducible exact LeO.refl _)
   | (with_reducible exact LeO.none _)
   | (with_reducible refine LeO.ite ?_ ?_)
   | (with_reducible refine LeO.bind ?_ (fun _ => ?_))
   | exact ih0 _ _ _ _ _ _ _ _ _ _ _ _
   | exact ih1 _ _ _ _ _ _ _ _ _ _ _
   | exact ih2 _ _ _ _ _ _ _ _ _ _ _
   | exact ih3 _ _ _ _ _ _ _ _ _ _
   | exact ih4 _ _ _ _ _ _ _ _ _ _
   | exact ih5 _ _ _ _ _ _ _ _ _ _ _
   | exact ih6 _ _ _ _ _ _ _ _ _ _ _ _
   | exact ih7 _ _ _ _ _ _ _
   | exact ih8 _ _ _ _ _ _ _
   | exact ih9 _ _ _ _ _ _ _ _
   | exact ih10 _ _ _ _ _ _ _ _ _
   | exact ih11 _ _ _ _ _ _ _ _
   | exact ih12 _ _ _ _ _ _ _ _ _
   | exact ih13 _ _ _ _ _ _ _ _ _ _
   | exact ih14 _ _ _ _ _ _ _ _ _ _
   | exact ih15 _ _ _
   | exact ih16 _ _ _
   | exact linkhouselaw8_placesFault.mono _ _
   | exact linkhouselaw8_sampled.mono _
   | exact linkhouseref8_CallsOf.mono _ _ _ _ _
   | exact linkhouseref8_PartOf.mono _ _ _
   | exact linkhouseref8_ProfileFault.mono _ _
   | exact sampling_Parts.mono _ _ _
   | exact LeO.none _
   | refine LeO.ite ?_ ?_
   | refine LeO.bind ?_ (fun _ => ?_)
  ·intro y0 y1 y2 y3 y4 y5 y6 y7 y8 y9 y10
   unfold lawParts.j1
   repeat' first
   | (with_reducible exact ih0 _ _ _ _ _ _ _ _ _ _ _ _)
   | (with_reducible exact ih1 _ _ _ _ _ _ _ _ _ _ _)
   | (with_reducible exact ih2 _ _ _ _ _ _ _ _ _ _ _)
   | (with_reducible exact ih3 _ _ _ _ _ _ _ _ _ _)
   | (with_reducible exact ih4 _ _ _ _ _ _ _ _ _ _)
   | (with_reducible exact ih5 _ _ _ _ _ _ _ _ _ _ _)
   | (with_reducible exact ih6 _ _ _ _ _ _ _ _ _ _ _ _)
   | (with_reducible exact ih7 _ _ _ _ _ _ _)
   | (with_reducible exact ih8 _ _ _ _ _ _ _)
   | (with_reducible exact ih9 _ _ _ _ _ _ _ _)
   | (with_reducible exact ih10 _ _ _ _ _ _ _ _ _)
   | (with_reducible exact ih11 _ _ _ _ _ _ _ _)
   | (with_reducible exact ih12 _ _ _ _ _ _ _ _ _)
   | (with_reducible exact ih13 _ _ _ _ _ _ _ _ _ _)
   | (with_reducible exact ih14 _ _ _ _ _ _ _ _ _ _)
   | (with_reducible exact ih15 _ _ _)
   | (with_reducible exact ih16 _ _ _)
   | (with_reducible exact linkhouselaw8_placesFault.mono _ _)
   | (with_reducible exact linkhouselaw8_sampled.mono _)
   | (with_reducible exact linkhouseref8_CallsOf.mono _ _ _ _ _)
   | (with_reducible exact linkhouseref8_PartOf.mono _ _ _)
   | (with_reducible exact linkhouseref8_ProfileFault.mono _ _)
   | (with_reducible exact sampling_Parts.mono _ _ _)
   | (with_reducible exact LeO.refl _)
   | (with_reducible exact LeO.none _)
   | (with_reducible refine LeO.ite ?_ ?_)
   | (with_reducible refine LeO.bind ?_ (fun _ => ?_))
   | exact ih0 _ _ _ _ _ _ _ _ _ _ _ _
   | exact ih1 _ _ _ _ _ _ _ _ _ _ _
   | exact ih2 _ _ _ _ _ _ _ _ _ _ _
   | exact ih3 _ _ _ _ _ _ _ _ _ _
   | exact ih4 _ _ _ _ _ _ _ _ _ _
   | exact ih5 _ _ _ _ _ _ _ _ _ _ _
   | exact ih6 _ _ _ _ _ _ _ _ _ _ _ _
   | exact ih7 _ _ _ _ _ _ _
   | exact ih8 _ _ _ _ _ _ _
   | exact ih9 _ _ _ _ _ _ _ _
   | exact ih10 _ _ _ _ _ _ _ _ _
   | exact ih11 _ _ _ _ _ _ _ _
   | exact ih12 _ _ _ _ _ _ _ _ _
   | exact ih13 _ _ _ _ _ _ _ _ _ _
   | exact ih14 _ _ _ _ _ _ _ _ _ _
   | exact ih15 _ _ _
   | exact ih16 _ _ _
   | exact linkhouselaw8_placesFault.mono _ _
   | exact linkhouselaw8_sampled.mono _
   | exact linkhouseref8_CallsOf.mono _ _ _ _ _
   | exact linkhouseref8_PartOf.mono _ _ _
   | exact linkhouseref8_ProfileFault.mono _ _
   | exact sampling_Parts.mono _ _ _
   | exact LeO.none _
   | refine LeO.ite ?_ ?_
   | refine LeO.bind ?_ (fun _ => ?_)
  ·intro y0 y1 y2 y3 y4 y5 y6 y7 y8 y9 y10
   unfold lawParts.j2
   repeat' first
   | (with_reducible exact ih0 _ _ _ _ _ _ _ _ _ _ _ _)
   | (with_reducible exact ih1 _ _ _ _ _ _ _ _ _ _ _)
   | (with_reducible exact ih2 _ _ _ _ _ _ _ _ _ _ _)
   | (with_reducible exact ih3 _ _ _ _ _ _ _ _ _ _)
   | (with_reducible exact ih4 _ _ _ _ _ _ _ _ _ _)
   | (with_reducible exact ih5 _ _ _ _ _ _ _ _ _ _ _)
   | (with_reducible exact ih6 _ _ _ _ _ _ _ _ _ _ _ _)
   | (with_reducible exact ih7 _ _ _ _ _ _ _)
   | (with_reducible exact ih8 _ _ _ _ _ _ _)
   | (with_reducible exact ih9 _ _ _ _ _ _ _ _)
   | (with_reducible exact ih10 _ _ _ _ _ _ _ _ _)
   | (with_reducible exact ih11 _ _ _ _ _ _ _ _)
   | (with_reducible exact ih12 _ _ _ _ _ _ _ _ _)
   | (with_reducible exact ih13 _ _ _ _ _ _ _ _ _ _)
   | (with_reducible exact ih14 _ _ _ _ _ _ _ _ _ _)
   | (with_reducible exact ih15 _ _ _)
   | (with_reducible exact ih16 _ _ _)
   | (with_reducible exact linkhouselaw8_placesFault.mono _ _)
   | (with_reducible exact linkhouselaw8_sampled.mono _)
   | (with_reducible exact linkhouseref8_CallsOf.mono _ _ _ _ _)
   | (with_reducible exact linkhouseref8_PartOf.mono _ _ _)
   | (with_reducible exact linkhouseref8_ProfileFault.mono _ _)
   | (with_reducible exact sampling_Parts.mono _ _ _)
   | (with_reducible exact LeO.refl _)
   | (with_reducible exact LeO.none _)
   | (with_reducible refine LeO.ite ?_ ?_)
   | (with_reducible refine LeO.bind ?_ (fun _ => ?_))
   | exact ih0 _ _ _ _ _ _ _ _ _ _ _ _
   | exact ih1 _ _ _ _ _ _ _ _ _ _ _
   | exact ih2 _ _ _ _ _ _ _ _ _ _ _
   | exact ih3 _ _ _ _ _ _ _ _ _ _
   | exact ih4 _ _ _ _ _ _ _ _ _ _
   | exact ih5 _ _ _ _ _ _ _ _ _ _ _
   | exact ih6 _ _ _ _ _ _ _ _ _ _ _ _
   | exact ih7 _ _ _ _ _ _ _
   | exact ih8 _ _ _ _ _ _ _
   | exact ih9 _ _ _ _ _ _ _ _
   | exact ih10 _ _ _ _ _ _ _ _ _
   | exact ih11 _ _ _ _ _ _ _ _
   | exact ih12 _ _ _ _ _ _ _ _ _
   | exact ih13 _ _ _ _ _ _ _ _ _ _
   | exact ih14 _ _ _ _ _ _ _ _ _ _
   | exact ih15 _ _ _
   | exact ih16 _ _ _
   | exact linkhouselaw8_placesFault.mono _ _
   | exact linkhouselaw8_sampled.mono _
   | exact linkhouseref8_CallsOf.mono _ _ _ _ _
   | exact linkhouseref8_PartOf.mono _ _ _
   | exact linkhouseref8_ProfileFault.mono _ _
   | exact sampling_Parts.mono _ _ _
   | exact LeO.none _
   | refine LeO.ite ?_ ?_
   | refine LeO.bind ?_ (fun _ => ?_)
  ·intro y0 y1 y2 y3 y4 y5 y6 y7 y8 y9
   unfold lawParts.j3
   repeat' first
   | (with_reducible exact ih0 _ _ _ _ _ _ _ _ _ _ _ _)
   | (with_reducible exact ih1 _ _ _ _ _ _ _ _ _ _ _)
   | (with_reducible exact ih2 _ _ _ _ _ _ _ _ _ _ _)
   | (with_reducible exact ih3 _ _ _ _ _ _ _ _ _ _)
   | (with_reducible exact ih4 _ _ _ _ _ _ _ _ _ _)
   | (with_reducible exact ih5 _ _ _ _ _ _ _ _ _ _ _)
   | (with_reducible exact ih6 _ _ _ _ _ _ _ _ _ _ _ _)
   | (with_reducible exact ih7 _ _ _ _ _ _ _)
   | (with_reducible exact ih8 _ _ _ _ _ _ _)
   | (with_reducible exact ih9 _ _ _ _ _ _ _ _)
   | (with_reducible exact ih10 _ _ _ _ _ _ _ _ _)
   | (with_reducible exact ih11 _ _ _ _ _ _ _ _)
   | (with_reducible exact ih12 _ _ _ _ _ _ _ _ _)
   | (with_reducible exact ih13 _ _ _ _ _ _ _ _ _ _)
   | (with_reducible exact ih14 _ _ _ _ _ _ _ _ _ _)
   | (with_reducible exact ih15 _ _ _)
   | (with_reducible exact ih16 _ _ _)
   | (with_reducible exact linkhouselaw8_placesFault.mono _ _)
   | (with_reducible exact linkhouselaw8_sampled.mono _)
   | (with_reducible exact linkhouseref8_CallsOf.mono _ _ _ _ _)
   | (with_reducible exact linkhouseref8_PartOf.mono _ _ _)
   | (with_reducible exact linkhouseref8_ProfileFault.mono _ _)
   | (with_reducible exact sampling_Parts.mono _ _ _)
   | (with_reducible exact LeO.refl _)
   | (with_reducible exact LeO.none _)
   | (with_reducible refine LeO.ite ?_ ?_)
   | (with_reducible refine LeO.bind ?_ (fun _ => ?_))
   | exact ih0 _ _ _ _ _ _ _ _ _ _ _ _
   | exact ih1 _ _ _ _ _ _ _ _ _ _ _
   | exact ih2 _ _ _ _ _ _ _ _ _ _ _
   | exact ih3 _ _ _ _ _ _ _ _ _ _
   | exact ih4 _ _ _ _ _ _ _ _ _ _
   | exact ih5 _ _ _ _ _ _ _ _ _ _ _
   | exact ih6 _ _ _ _ _ _ _ _ _ _ _ _
   | exact ih7 _ _ _ _ _ _ _
   | exact ih8 _ _ _ _ _ _ _
   | exact ih9 _ _ _ _ _ _ _ _
   | exact ih10 _ _ _ _ _ _ _ _ _
   | exact ih11 _ _ _ _ _ _ _ _
   | exact ih12 _ _ _ _ _ _ _ _ _
   | exact ih13 _ _ _ _ _ _ _ _ _ _
   | exact ih14 _ _ _ _ _ _ _ _ _ _
   | exact ih15 _ _ _
   | exact ih16 _ _ _
   | exact linkhouselaw8_placesFault.mono _ _
   | exact linkhouselaw8_sampled.mono _
   | exact linkhouseref8_CallsOf.mono _ _ _ _ _
   | exact linkhouseref8_PartOf.mono _ _ _
   | exact linkhouseref8_ProfileFault.mono _ _
   | exact sampling_Parts.mono _ _ _
   | exact LeO.none _
   | refine LeO.ite ?_ ?_
   | refine LeO.bind ?_ (fun _ => ?_)
  ·intro y0 y1 y2 y3 y4 y5 y6 y7 y8 y9
   unfold lawParts.l0
   repeat' first
   | (with_reducible exact ih0 _ _ _ _ _ _ _ _ _ _ _ _)
   | (with_reducible exact ih1 _ _ _ _ _ _ _ _ _ _ _)
   | (with_reducible exact ih2 _ _ _ _ _ _ _ _ _ _ _)
   | (with_reducible exact ih3 _ _ _ _ _ _ _ _ _ _)
   | (with_reducible exact ih4 _ _ _ _ _ _ _ _ _ _)
   | (with_reducible exact ih5 _ _ _ _ _ _ _ _ _ _ _)
   | (with_reducible exact ih6 _ _ _ _ _ _ _ _ _ _ _ _)
   | (with_reducible exact ih7 _ _ _ _ _ _ _)
   | (with_reducible exact ih8 _ _ _ _ _ _ _)
   | (with_reducible exact ih9 _ _ _ _ _ _ _ _)
   | (with_reducible exact ih10 _ _ _ _ _ _ _ _ _)
   | (with_reducible exact ih11 _ _ _ _ _ _ _ _)
   | (with_reducible exact ih12 _ _ _ _ _ _ _ _ _)
   | (with_reducible exact ih13 _ _ _ _ _ _ _ _ _ _)
   | (with_reducible exact ih14 _ _ _ _ _ _ _ _ _ _)
   | (with_reducible exact ih15 _ _ _)
   | (with_reducible exact ih16 _ _ _)
   | (with_reducible exact linkhouselaw8_placesFault.mono _ _)
   | (with_reducible exact linkhouselaw8_sampled.mono _)
   | (with_reducible exact linkhouseref8_CallsOf.mono _ _ _ _ _)
   | (with_reducible exact linkhouseref8_PartOf.mono _ _ _)
   | (with_reducible exact linkhouseref8_ProfileFault.mono _ _)
   | (with_reducible exact sampling_Parts.mono _ _ _)
   | (with_reducible exact LeO.refl _)
   | (with_reducible exact LeO.none _)
   | (with_reducible refine LeO.ite ?_ ?_)
   | (with_reducible refine LeO.bind ?_ (fun _ => ?_))
   | exact ih0 _ _ _ _ _ _ _ _ _ _ _ _
   | exact ih1 _ _ _ _ _ _ _ _ _ _ _
   | exact ih2 _ _ _ _ _ _ _ _ _ _ _
   | exact ih3 _ _ _ _ _ _ _ _ _ _
   | exact ih4 _ _ _ _ _ _ _ _ _ _
   | exact ih5 _ _ _ _ _ _ _ _ _ _ _
   | exact ih6 _ _ _ _ _ _ _ _ _ _ _ _
   | exact ih7 _ _ _ _ _ _ _
   | exact ih8 _ _ _ _ _ _ _
   | exact ih9 _ _ _ _ _ _ _ _
   | exact ih10 _ _ _ _ _ _ _ _ _
   | exact ih11 _ _ _ _ _ _ _ _
   | exact ih12 _ _ _ _ _ _ _ _ _
   | exact ih13 _ _ _ _ _ _ _ _ _ _
   | exact ih14 _ _ _ _ _ _ _ _ _ _
   | exact ih15 _ _ _
   | exact ih16 _ _ _
   | exact linkhouselaw8_placesFault.mono _ _
   | exact linkhouselaw8_sampled.mono _
   | exact linkhouseref8_CallsOf.mono _ _ _ _ _
   | exact linkhouseref8_PartOf.mono _ _ _
   | exact linkhouseref8_ProfileFault.mono _ _
   | exact sampling_Parts.mono _ _ _
   | exact LeO.none _
   | refine LeO.ite ?_ ?_
   | refine LeO.bind ?_ (fun _ => ?_)
  ·intro y0 y1 y2 y3 y4 y5 y6 y7 y8 y9 y10
   unfold lawParts.j5
   repeat' first
   | (with_reducible exact ih0 _ _ _ _ _ _ _ _ _ _ _ _)
   | (with_reducible exact ih1 _ _ _ _ _ _ _ _ _ _ _)
   | (with_reducible exact ih2 _ _ _ _ _ _ _ _ _ _ _)
   | (with_reducible exact ih3 _ _ _ _ _ _ _ _ _ _)
   | (with_reducible exact ih4 _ _ _ _ _ _ _ _ _ _)
   | (with_reducible exact ih5 _ _ _ _ _ _ _ _ _ _ _)
   | (with_reducible exact ih6 _ _ _ _ _ _ _ _ _ _ _ _)
   | (with_reducible exact ih7 _ _ _ _ _ _ _)
   | (with_reducible exact ih8 _ _ _ _ _ _ _)
   | (with_reducible exact ih9 _ _ _ _ _ _ _ _)
   | (with_reducible exact ih10 _ _ _ _ _ _ _ _ _)
   | (with_reducible exact ih11 _ _ _ _ _ _ _ _)
   | (with_reducible exact ih12 _ _ _ _ _ _ _ _ _)
   | (with_reducible exact ih13 _ _ _ _ _ _ _ _ _ _)
   | (with_reducible exact ih14 _ _ _ _ _ _ _ _ _ _)
   | (with_reducible exact ih15 _ _ _)
   | (with_reducible exact ih16 _ _ _)
   | (with_reducible exact linkhouselaw8_placesFault.mono _ _)
   | (with_reducible exact linkhouselaw8_sampled.mono _)
   | (with_reducible exact linkhouseref8_CallsOf.mono _ _ _ _ _)
   | (with_reducible exact linkhouseref8_PartOf.mono _ _ _)
   | (with_reducible exact linkhouseref8_ProfileFault.mono _ _)
   | (with_reducible exact sampling_Parts.mono _ _ _)
   | (with_reducible exact LeO.refl _)
   | (with_reducible exact LeO.none _)
   | (with_reducible refine LeO.ite ?_ ?_)
   | (with_reducible refine LeO.bind ?_ (fun _ => ?_))
   | exact ih0 _ _ _ _ _ _ _ _ _ _ _ _
   | exact ih1 _ _ _ _ _ _ _ _ _ _ _
   | exact ih2 _ _ _ _ _ _ _ _ _ _ _
   | exact ih3 _ _ _ _ _ _ _ _ _ _
   | exact ih4 _ _ _ _ _ _ _ _ _ _
   | exact ih5 _ _ _ _ _ _ _ _ _ _ _
   | exact ih6 _ _ _ _ _ _ _ _ _ _ _ _
   | exact ih7 _ _ _ _ _ _ _
   | exact ih8 _ _ _ _ _ _ _
   | exact ih9 _ _ _ _ _ _ _ _
   | exact ih10 _ _ _ _ _ _ _ _ _
   | exact ih11 _ _ _ _ _ _ _ _
   | exact ih12 _ _ _ _ _ _ _ _ _
   | exact ih13 _ _ _ _ _ _ _ _ _ _
   | exact ih14 _ _ _ _ _ _ _ _ _ _
   | exact ih15 _ _ _
   | exact ih16 _ _ _
   | exact linkhouselaw8_placesFault.mono _ _
   | exact linkhouselaw8_sampled.mono _
   | exact linkhouseref8_CallsOf.mono _ _ _ _ _
   | exact linkhouseref8_PartOf.mono _ _ _
   | exact linkhouseref8_ProfileFault.mono _ _
   | exact sampling_Parts.mono _ _ _
   | exact LeO.none _
   | refine LeO.ite ?_ ?_
   | refine LeO.bind ?_ (fun _ => ?_)
  ·intro y0 y1 y2 y3 y4 y5 y6 y7 y8 y9 y10 y11
   unfold lawParts.l1
   repeat' first
   | (with_reducible exact ih0 _ _ _ _ _ _ _ _ _ _ _ _)
   | (with_reducible exact ih1 _ _ _ _ _ _ _ _ _ _ _)
   | (with_reducible exact ih2 _ _ _ _ _ _ _ _ _ _ _)
   | (with_reducible exact ih3 _ _ _ _ _ _ _ _ _ _)
   | (with_reducible exact ih4 _ _ _ _ _ _ _ _ _ _)
   | (with_reducible exact ih5 _ _ _ _ _ _ _ _ _ _ _)
   | (with_reducible exact ih6 _ _ _ _ _ _ _ _ _ _ _ _)
   | (with_reducible exact ih7 _ _ _ _ _ _ _)
   | (with_reducible exact ih8 _ _ _ _ _ _ _)
   | (with_reducible exact ih9 _ _ _ _ _ _ _ _)
   | (with_reducible exact ih10 _ _ _ _ _ _ _ _ _)
   | (with_reducible exact ih11 _ _ _ _ _ _ _ _)
   | (with_reducible exact ih12 _ _ _ _ _ _ _ _ _)
   | (with_reducible exact ih13 _ _ _ _ _ _ _ _ _ _)
   | (with_reducible exact ih14 _ _ _ _ _ _ _ _ _ _)
   | (with_reducible exact ih15 _ _ _)
   | (with_reducible exact ih16 _ _ _)
   | (with_reducible exact linkhouselaw8_placesFault.mono _ _)
   | (with_reducible exact linkhouselaw8_sampled.mono _)
   | (with_reducible exact linkhouseref8_CallsOf.mono _ _ _ _ _)
   | (with_reducible exact linkhouseref8_PartOf.mono _ _ _)
   | (with_reducible exact linkhouseref8_ProfileFault.mono _ _)
   | (with_reducible exact sampling_Parts.mono _ _ _)
   | (with_reducible exact LeO.refl _)
   | (with_reducible exact LeO.none _)
   | (with_reducible refine LeO.ite ?_ ?_)
   | (with_reducible refine LeO.bind ?_ (fun _ => ?_))
   | exact ih0 _ _ _ _ _ _ _ _ _ _ _ _
   | exact ih1 _ _ _ _ _ _ _ _ _ _ _
   | exact ih2 _ _ _ _ _ _ _ _ _ _ _
   | exact ih3 _ _ _ _ _ _ _ _ _ _
   | exact ih4 _ _ _ _ _ _ _ _ _ _
   | exact ih5 _ _ _ _ _ _ _ _ _ _ _
   | exact ih6 _ _ _ _ _ _ _ _ _ _ _ _
   | exact ih7 _ _ _ _ _ _ _
   | exact ih8 _ _ _ _ _ _ _
   | exact ih9 _ _ _ _ _ _ _ _
   | exact ih10 _ _ _ _ _ _ _ _ _
   | exact ih11 _ _ _ _ _ _ _ _
   | exact ih12 _ _ _ _ _ _ _ _ _
   | exact ih13 _ _ _ _ _ _ _ _ _ _
   | exact ih14 _ _ _ _ _ _ _ _ _ _
   | exact ih15 _ _ _
   | exact ih16 _ _ _
   | exact linkhouselaw8_placesFault.mono _ _
   | exact linkhouselaw8_sampled.mono _
   | exact linkhouseref8_CallsOf.mono _ _ _ _ _
   | exact linkhouseref8_PartOf.mono _ _ _
   | exact linkhouseref8_ProfileFault.mono _ _
   | exact sampling_Parts.mono _ _ _
   | exact LeO.none _
   | refine LeO.ite ?_ ?_
   | refine LeO.bind ?_ (fun _ => ?_)
  ·intro y0 y1 y2 y3 y4 y5 y6
   unfold lawParts.j7
   repeat' first
   | (with_reducible exact ih0 _ _ _ _ _ _ _ _ _ _ _ _)
   | (with_reducible exact ih1 _ _ _ _ _ _ _ _ _ _ _)
   | (with_reducible exact ih2 _ _ _ _ _ _ _ _ _ _ _)
   | (with_reducible exact ih3 _ _ _ _ _ _ _ _ _ _)
   | (with_reducible exact ih4 _ _ _ _ _ _ _ _ _ _)
   | (with_reducible exact ih5 _ _ _ _ _ _ _ _ _ _ _)
   | (with_reducible exact ih6 _ _ _ _ _ _ _ _ _ _ _ _)
   | (with_reducible exact ih7 _ _ _ _ _ _ _)
   | (with_reducible exact ih8 _ _ _ _ _ _ _)
   | (with_reducible exact ih9 _ _ _ _ _ _ _ _)
   | (with_reducible exact ih10 _ _ _ _ _ _ _ _ _)
   | (with_reducible exact ih11 _ _ _ _ _ _ _ _)
   | (with_reducible exact ih12 _ _ _ _ _ _ _ _ _)
   | (with_reducible exact ih13 _ _ _ _ _ _ _ _ _ _)
   | (with_reducible exact ih14 _ _ _ _ _ _ _ _ _ _)
   | (with_reducible exact ih15 _ _ _)
   | (with_reducible exact ih16 _ _ _)
   | (with_reducible exact linkhouselaw8_placesFault.mono _ _)
   | (with_reducible exact linkhouselaw8_sampled.mono _)
   | (with_reducible exact linkhouseref8_CallsOf.mono _ _ _ _ _)
   | (with_reducible exact linkhouseref8_PartOf.mono _ _ _)
   | (with_reducible exact linkhouseref8_ProfileFault.mono _ _)
   | (with_reducible exact sampling_Parts.mono _ _ _)
   | (with_reducible exact LeO.refl _)
   | (with_reducible exact LeO.none _)
   | (with_reducible refine LeO.ite ?_ ?_)
   | (with_reducible refine LeO.bind ?_ (fun _ => ?_))
   | exact ih0 _ _ _ _ _ _ _ _ _ _ _ _
   | exact ih1 _ _ _ _ _ _ _ _ _ _ _
   | exact ih2 _ _ _ _ _ _ _ _ _ _ _
   | exact ih3 _ _ _ _ _ _ _ _ _ _
   | exact ih4 _ _ _ _ _ _ _ _ _ _
   | exact ih5 _ _ _ _ _ _ _ _ _ _ _
   | exact ih6 _ _ _ _ _ _ _ _ _ _ _ _
   | exact ih7 _ _ _ _ _ _ _
   | exact ih8 _ _ _ _ _ _ _
   | exact ih9 _ _ _ _ _ _ _ _
   | exact ih10 _ _ _ _ _ _ _ _ _
   | exact ih11 _ _ _ _ _ _ _ _
   | exact ih12 _ _ _ _ _ _ _ _ _
   | exact ih13 _ _ _ _ _ _ _ _ _ _
   | exact ih14 _ _ _ _ _ _ _ _ _ _
   | exact ih15 _ _ _
   | exact ih16 _ _ _
   | exact linkhouselaw8_placesFault.mono _ _
   | exact linkhouselaw8_sampled.mono _
   | exact linkhouseref8_CallsOf.mono _ _ _ _ _
   | exact linkhouseref8_PartOf.mono _ _ _
   | exact linkhouseref8_ProfileFault.mono _ _
   | exact sampling_Parts.mono _ _ _
   | exact LeO.none _
   | refine LeO.ite ?_ ?_
   | refine LeO.bind ?_ (fun _ => ?_)
  ·intro y0 y1 y2 y3 y4 y5 y6
   unfold lawParts.j8
   repeat' first
   | (with_reducible exact ih0 _ _ _ _ _ _ _ _ _ _ _ _)
   | (with_reducible exact ih1 _ _ _ _ _ _ _ _ _ _ _)
   | (with_reducible exact ih2 _ _ _ _ _ _ _ _ _ _ _)
   | (with_reducible exact ih3 _ _ _ _ _ _ _ _ _ _)
   | (with_reducible exact ih4 _ _ _ _ _ _ _ _ _ _)
   | (with_reducible exact ih5 _ _ _ _ _ _ _ _ _ _ _)
   | (with_reducible exact ih6 _ _ _ _ _ _ _ _ _ _ _ _)
   | (with_reducible exact ih7 _ _ _ _ _ _ _)
   | (with_reducible exact ih8 _ _ _ _ _ _ _)
   | (with_reducible exact ih9 _ _ _ _ _ _ _ _)
   | (with_reducible exact ih10 _ _ _ _ _ _ _ _ _)
   | (with_reducible exact ih11 _ _ _ _ _ _ _ _)
   | (with_reducible exact ih12 _ _ _ _ _ _ _ _ _)
   | (with_reducible exact ih13 _ _ _ _ _ _ _ _ _ _)
   | (with_reducible exact ih14 _ _ _ _ _ _ _ _ _ _)
   | (with_reducible exact ih15 _ _ _)
   | (with_reducible exact ih16 _ _ _)
   | (with_reducible exact linkhouselaw8_placesFault.mono _ _)
   | (with_reducible exact linkhouselaw8_sampled.mono _)
   | (with_reducible exact linkhouseref8_CallsOf.mono _ _ _ _ _)
   | (with_reducible exact linkhouseref8_PartOf.mono _ _ _)
   | (with_reducible exact linkhouseref8_ProfileFault.mono _ _)
   | (with_reducible exact sampling_Parts.mono _ _ _)
   | (with_reducible exact LeO.refl _)
   | (with_reducible exact LeO.none _)
   | (with_reducible refine LeO.ite ?_ ?_)
   | (with_reducible refine LeO.bind ?_ (fun _ => ?_))
   | exact ih0 _ _ _ _ _ _ _ _ _ _ _ _
   | exact ih1 _ _ _ _ _ _ _ _ _ _ _
   | exact ih2 _ _ _ _ _ _ _ _ _ _ _
   | exact ih3 _ _ _ _ _ _ _ _ _ _
   | exact ih4 _ _ _ _ _ _ _ _ _ _
   | exact ih5 _ _ _ _ _ _ _ _ _ _ _
   | exact ih6 _ _ _ _ _ _ _ _ _ _ _ _
   | exact ih7 _ _ _ _ _ _ _
   | exact ih8 _ _ _ _ _ _ _
   | exact ih9 _ _ _ _ _ _ _ _
   | exact ih10 _ _ _ _ _ _ _ _ _
   | exact ih11 _ _ _ _ _ _ _ _
   | exact ih12 _ _ _ _ _ _ _ _ _
   | exact ih13 _ _ _ _ _ _ _ _ _ _
   | exact ih14 _ _ _ _ _ _ _ _ _ _
   | exact ih15 _ _ _
   | exact ih16 _ _ _
   | exact linkhouselaw8_placesFault.mono _ _
   | exact linkhouselaw8_sampled.mono _
   | exact linkhouseref8_CallsOf.mono _ _ _ _ _
   | exact linkhouseref8_PartOf.mono _ _ _
   | exact linkhouseref8_ProfileFault.mono _ _
   | exact sampling_Parts.mono _ _ _
   | exact LeO.none _
   | refine LeO.ite ?_ ?_
   | refine LeO.bind ?_ (fun _ => ?_)
  ·intro y0 y1 y2 y3 y4 y5 y6 y7
   unfold lawParts.l2
   repeat' first
   | (with_reducible exact ih0 _ _ _ _ _ _ _ _ _ _ _ _)
   | (with_reducible exact ih1 _ _ _ _ _ _ _ _ _ _ _)
   | (with_reducible exact ih2 _ _ _ _ _ _ _ _ _ _ _)
   | (with_reducible exact ih3 _ _ _ _ _ _ _ _ _ _)
   | (with_reducible exact ih4 _ _ _ _ _ _ _ _ _ _)
   | (with_reducible exact ih5 _ _ _ _ _ _ _ _ _ _ _)
   | (with_reducible exact ih6 _ _ _ _ _ _ _ _ _ _ _ _)
   | (with_reducible exact ih7 _ _ _ _ _ _ _)
   | (with_reducible exact ih8 _ _ _ _ _ _ _)
   | (with_reducible exact ih9 _ _ _ _ _ _ _ _)
   | (with_reducible exact ih10 _ _ _ _ _ _ _ _ _)
   | (with_reducible exact ih11 _ _ _ _ _ _ _ _)
   | (with_reducible exact ih12 _ _ _ _ _ _ _ _ _)
   | (with_reducible exact ih13 _ _ _ _ _ _ _ _ _ _)
   | (with_reducible exact ih14 _ _ _ _ _ _ _ _ _ _)
   | (with_reducible exact ih15 _ _ _)
   | (with_reducible exact ih16 _ _ _)
   | (with_reducible exact linkhouselaw8_placesFault.mono _ _)
   | (with_reducible exact linkhouselaw8_sampled.mono _)
   | (with_reducible exact linkhouseref8_CallsOf.mono _ _ _ _ _)
   | (with_reducible exact linkhouseref8_PartOf.mono _ _ _)
   | (with_reducible exact linkhouseref8_ProfileFault.mono _ _)
   | (with_reducible exact sampling_Parts.mono _ _ _)
   | (with_reducible exact LeO.refl _)
   | (with_reducible exact LeO.none _)
   | (with_reducible refine LeO.ite ?_ ?_)
   | (with_reducible refine LeO.bind ?_ (fun _ => ?_))
   | exact ih0 _ _ _ _ _ _ _ _ _ _ _ _
   | exact ih1 _ _ _ _ _ _ _ _ _ _ _
   | exact ih2 _ _ _ _ _ _ _ _ _ _ _
   | exact ih3 _ _ _ _ _ _ _ _ _ _
   | exact ih4 _ _ _ _ _ _ _ _ _ _
   | exact ih5 _ _ _ _ _ _ _ _ _ _ _
   | exact ih6 _ _ _ _ _ _ _ _ _ _ _ _
   | exact ih7 _ _ _ _ _ _ _
   | exact ih8 _ _ _ _ _ _ _
   | exact ih9 _ _ _ _ _ _ _ _
   | exact ih10 _ _ _ _ _ _ _ _ _
   | exact ih11 _ _ _ _ _ _ _ _
   | exact ih12 _ _ _ _ _ _ _ _ _
   | exact ih13 _ _ _ _ _ _ _ _ _ _
   | exact ih14 _ _ _ _ _ _ _ _ _ _
   | exact ih15 _ _ _
   | exact ih16 _ _ _
   | exact linkhouselaw8_placesFault.mono _ _
   | exact linkhouselaw8_sampled.mono _
   | exact linkhouseref8_CallsOf.mono _ _ _ _ _
   | exact linkhouseref8_PartOf.mono _ _ _
   | exact linkhouseref8_ProfileFault.mono _ _
   | exact sampling_Parts.mono _ _ _
   | exact LeO.none _
   | refine LeO.ite ?_ ?_
   | refine LeO.bind ?_ (fun _ => ?_)
  ·intro y0 y1 y2 y3 y4 y5 y6 y7 y8
   unfold lawParts.j10
   repeat' first
   | (with_reducible exact ih0 _ _ _ _ _ _ _ _ _ _ _ _)
   | (with_reducible exact ih1 _ _ _ _ _ _ _ _ _ _ _)
   | (with_reducible exact ih2 _ _ _ _ _ _ _ _ _ _ _)
   | (with_reducible exact ih3 _ _ _ _ _ _ _ _ _ _)
   | (with_reducible exact ih4 _ _ _ _ _ _ _ _ _ _)
   | (with_reducible exact ih5 _ _ _ _ _ _ _ _ _ _ _)
   | (with_reducible exact ih6 _ _ _ _ _ _ _ _ _ _ _ _)
   | (with_reducible exact ih7 _ _ _ _ _ _ _)
   | (with_reducible exact ih8 _ _ _ _ _ _ _)
   | (with_reducible exact ih9 _ _ _ _ _ _ _ _)
   | (with_reducible exact ih10 _ _ _ _ _ _ _ _ _)
   | (with_reducible exact ih11 _ _ _ _ _ _ _ _)
   | (with_reducible exact ih12 _ _ _ _ _ _ _ _ _)
   | (with_reducible exact ih13 _ _ _ _ _ _ _ _ _ _)
   | (with_reducible exact ih14 _ _ _ _ _ _ _ _ _ _)
   | (with_reducible exact ih15 _ _ _)
   | (with_reducible exact ih16 _ _ _)
   | (with_reducible exact linkhouselaw8_placesFault.mono _ _)
   | (with_reducible exact linkhouselaw8_sampled.mono _)
   | (with_reducible exact linkhouseref8_CallsOf.mono _ _ _ _ _)
   | (with_reducible exact linkhouseref8_PartOf.mono _ _ _)
   | (with_reducible exact linkhouseref8_ProfileFault.mono _ _)
   | (with_reducible exact sampling_Parts.mono _ _ _)
   | (with_reducible exact LeO.refl _)
   | (with_reducible exact LeO.none _)
   | (with_reducible refine LeO.ite ?_ ?_)
   | (with_reducible refine LeO.bind ?_ (fun _ => ?_))
   | exact ih0 _ _ _ _ _ _ _ _ _ _ _ _
   | exact ih1 _ _ _ _ _ _ _ _ _ _ _
   | exact ih2 _ _ _ _ _ _ _ _ _ _ _
   | exact ih3 _ _ _ _ _ _ _ _ _ _
   | exact ih4 _ _ _ _ _ _ _ _ _ _
   | exact ih5 _ _ _ _ _ _ _ _ _ _ _
   | exact ih6 _ _ _ _ _ _ _ _ _ _ _ _
   | exact ih7 _ _ _ _ _ _ _
   | exact ih8 _ _ _ _ _ _ _
   | exact ih9 _ _ _ _ _ _ _ _
   | exact ih10 _ _ _ _ _ _ _ _ _
   | exact ih11 _ _ _ _ _ _ _ _
   | exact ih12 _ _ _ _ _ _ _ _ _
   | exact ih13 _ _ _ _ _ _ _ _ _ _
   | exact ih14 _ _ _ _ _ _ _ _ _ _
   | exact ih15 _ _ _
   | exact ih16 _ _ _
   | exact linkhouselaw8_placesFault.mono _ _
   | exact linkhouselaw8_sampled.mono _
   | exact linkhouseref8_CallsOf.mono _ _ _ _ _
   | exact linkhouseref8_PartOf.mono _ _ _
   | exact linkhouseref8_ProfileFault.mono _ _
   | exact sampling_Parts.mono _ _ _
   | exact LeO.none _
   | refine LeO.ite ?_ ?_
   | refine LeO.bind ?_ (fun _ => ?_)
  ·intro y0 y1 y2 y3 y4 y5 y6 y7
   unfold lawParts.j11
   repeat' first
   | (with_reducible exact ih0 _ _ _ _ _ _ _ _ _ _ _ _)
   | (with_reducible exact ih1 _ _ _ _ _ _ _ _ _ _ _)
   | (with_reducible exact ih2 _ _ _ _ _ _ _ _ _ _ _)
   | (with_reducible exact ih3 _ _ _ _ _ _ _ _ _ _)
   | (with_reducible exact ih4 _ _ _ _ _ _ _ _ _ _)
   | (with_reducible exact ih5 _ _ _ _ _ _ _ _ _ _ _)
   | (with_reducible exact ih6 _ _ _ _ _ _ _ _ _ _ _ _)
   | (with_reducible exact ih7 _ _ _ _ _ _ _)
   | (with_reducible exact ih8 _ _ _ _ _ _ _)
   | (with_reducible exact ih9 _ _ _ _ _ _ _ _)
   | (with_reducible exact ih10 _ _ _ _ _ _ _ _ _)
   | (with_reducible exact ih11 _ _ _ _ _ _ _ _)
   | (with_reducible exact ih12 _ _ _ _ _ _ _ _ _)
   | (with_reducible exact ih13 _ _ _ _ _ _ _ _ _ _)
   | (with_reducible exact ih14 _ _ _ _ _ _ _ _ _ _)
   | (with_reducible exact ih15 _ _ _)
   | (with_reducible exact ih16 _ _ _)
   | (with_reducible exact linkhouselaw8_placesFault.mono _ _)
   | (with_reducible exact linkhouselaw8_sampled.mono _)
   | (with_reducible exact linkhouseref8_CallsOf.mono _ _ _ _ _)
   | (with_reducible exact linkhouseref8_PartOf.mono _ _ _)
   | (with_reducible exact linkhouseref8_ProfileFault.mono _ _)
   | (with_reducible exact sampling_Parts.mono _ _ _)
   | (with_reducible exact LeO.refl _)
   | (with_reducible exact LeO.none _)
   | (with_reducible refine LeO.ite ?_ ?_)
   | (with_reducible refine LeO.bind ?_ (fun _ => ?_))
   | exact ih0 _ _ _ _ _ _ _ _ _ _ _ _
   | exact ih1 _ _ _ _ _ _ _ _ _ _ _
   | exact ih2 _ _ _ _ _ _ _ _ _ _ _
   | exact ih3 _ _ _ _ _ _ _ _ _ _
   | exact ih4 _ _ _ _ _ _ _ _ _ _
   | exact ih5 _ _ _ _ _ _ _ _ _ _ _
   | exact ih6 _ _ _ _ _ _ _ _ _ _ _ _
   | exact ih7 _ _ _ _ _ _ _
   | exact ih8 _ _ _ _ _ _ _
   | exact ih9 _ _ _ _ _ _ _ _
   | exact ih10 _ _ _ _ _ _ _ _ _
   | exact ih11 _ _ _ _ _ _ _ _
   | exact ih12 _ _ _ _ _ _ _ _ _
   | exact ih13 _ _ _ _ _ _ _ _ _ _
   | exact ih14 _ _ _ _ _ _ _ _ _ _
   | exact ih15 _ _ _
   | exact ih16 _ _ _
   | exact linkhouselaw8_placesFault.mono _ _
   | exact linkhouselaw8_sampled.mono _
   | exact linkhouseref8_CallsOf.mono _ _ _ _ _
   | exact linkhouseref8_PartOf.mono _ _ _
   | exact linkhouseref8_ProfileFault.mono _ _
   | exact sampling_Parts.mono _ _ _
   | exact LeO.none _
   | refine LeO.ite ?_ ?_
   | refine LeO.bind ?_ (fun _ => ?_)
  ·intro y0 y1 y2 y3 y4 y5 y6 y7 y8
   unfold lawParts.l3
   repeat' first
   | (with_reducible exact ih0 _ _ _ _ _ _ _ _ _ _ _ _)
   | (with_reducible exact ih1 _ _ _ _ _ _ _ _ _ _ _)
   | (with_reducible exact ih2 _ _ _ _ _ _ _ _ _ _ _)
   | (with_reducible exact ih3 _ _ _ _ _ _ _ _ _ _)
   | (with_reducible exact ih4 _ _ _ _ _ _ _ _ _ _)
   | (with_reducible exact ih5 _ _ _ _ _ _ _ _ _ _ _)
   | (with_reducible exact ih6 _ _ _ _ _ _ _ _ _ _ _ _)
   | (with_reducible exact ih7 _ _ _ _ _ _ _)
   | (with_reducible exact ih8 _ _ _ _ _ _ _)
   | (with_reducible exact ih9 _ _ _ _ _ _ _ _)
   | (with_reducible exact ih10 _ _ _ _ _ _ _ _ _)
   | (with_reducible exact ih11 _ _ _ _ _ _ _ _)
   | (with_reducible exact ih12 _ _ _ _ _ _ _ _ _)
   | (with_reducible exact ih13 _ _ _ _ _ _ _ _ _ _)
   | (with_reducible exact ih14 _ _ _ _ _ _ _ _ _ _)
   | (with_reducible exact ih15 _ _ _)
   | (with_reducible exact ih16 _ _ _)
   | (with_reducible exact linkhouselaw8_placesFault.mono _ _)
   | (with_reducible exact linkhouselaw8_sampled.mono _)
   | (with_reducible exact linkhouseref8_CallsOf.mono _ _ _ _ _)
   | (with_reducible exact linkhouseref8_PartOf.mono _ _ _)
   | (with_reducible exact linkhouseref8_ProfileFault.mono _ _)
   | (with_reducible exact sampling_Parts.mono _ _ _)
   | (with_reducible exact LeO.refl _)
   | (with_reducible exact LeO.none _)
   | (with_reducible refine LeO.ite ?_ ?_)
   | (with_reducible refine LeO.bind ?_ (fun _ => ?_))
   | exact ih0 _ _ _ _ _ _ _ _ _ _ _ _
   | exact ih1 _ _ _ _ _ _ _ _ _ _ _
   | exact ih2 _ _ _ _ _ _ _ _ _ _ _
   | exact ih3 _ _ _ _ _ _ _ _ _ _
   | exact ih4 _ _ _ _ _ _ _ _ _ _
   | exact ih5 _ _ _ _ _ _ _ _ _ _ _
   | exact ih6 _ _ _ _ _ _ _ _ _ _ _ _
   | exact ih7 _ _ _ _ _ _ _
   | exact ih8 _ _ _ _ _ _ _
   | exact ih9 _ _ _ _ _ _ _ _
   | exact ih10 _ _ _ _ _ _ _ _ _
   | exact ih11 _ _ _ _ _ _ _ _
   | exact ih12 _ _ _ _ _ _ _ _ _
   | exact ih13 _ _ _ _ _ _ _ _ _ _
   | exact ih14 _ _ _ _ _ _ _ _ _ _
   | exact ih15 _ _ _
   | exact ih16 _ _ _
   | exact linkhouselaw8_placesFault.mono _ _
   | exact linkhouselaw8_sampled.mono _
   | exact linkhouseref8_CallsOf.mono _ _ _ _ _
   | exact linkhouseref8_PartOf.mono _ _ _
   | exact linkhouseref8_ProfileFault.mono _ _
   | exact sampling_Parts.mono _ _ _
   | exact LeO.none _
   | refine LeO.ite ?_ ?_
   | refine LeO.bind ?_ (fun _ => ?_)
  ·intro y0 y1 y2 y3 y4 y5 y6 y7 y8 y9
   unfold lawParts.j13
   repeat' first
   | (with_reducible exact ih0 _ _ _ _ _ _ _ _ _ _ _ _)
   | (with_reducible exact ih1 _ _ _ _ _ _ _ _ _ _ _)
   | (with_reducible exact ih2 _ _ _ _ _ _ _ _ _ _ _)
   | (with_reducible exact ih3 _ _ _ _ _ _ _ _ _ _)
   | (with_reducible exact ih4 _ _ _ _ _ _ _ _ _ _)
   | (with_reducible exact ih5 _ _ _ _ _ _ _ _ _ _ _)
   | (with_reducible exact ih6 _ _ _ _ _ _ _ _ _ _ _ _)
   | (with_reducible exact ih7 _ _ _ _ _ _ _)
   | (with_reducible exact ih8 _ _ _ _ _ _ _)
   | (with_reducible exact ih9 _ _ _ _ _ _ _ _)
   | (with_reducible exact ih10 _ _ _ _ _ _ _ _ _)
   | (with_reducible exact ih11 _ _ _ _ _ _ _ _)
   | (with_reducible exact ih12 _ _ _ _ _ _ _ _ _)
   | (with_reducible exact ih13 _ _ _ _ _ _ _ _ _ _)
   | (with_reducible exact ih14 _ _ _ _ _ _ _ _ _ _)
   | (with_reducible exact ih15 _ _ _)
   | (with_reducible exact ih16 _ _ _)
   | (with_reducible exact linkhouselaw8_placesFault.mono _ _)
   | (with_reducible exact linkhouselaw8_sampled.mono _)
   | (with_reducible exact linkhouseref8_CallsOf.mono _ _ _ _ _)
   | (with_reducible exact linkhouseref8_PartOf.mono _ _ _)
   | (with_reducible exact linkhouseref8_ProfileFault.mono _ _)
   | (with_reducible exact sampling_Parts.mono _ _ _)
   | (with_reducible exact LeO.refl _)
   | (with_reducible exact LeO.none _)
   | (with_reducible refine LeO.ite ?_ ?_)
   | (with_reducible refine LeO.bind ?_ (fun _ => ?_))
   | exact ih0 _ _ _ _ _ _ _ _ _ _ _ _
   | exact ih1 _ _ _ _ _ _ _ _ _ _ _
   | exact ih2 _ _ _ _ _ _ _ _ _ _ _
   | exact ih3 _ _ _ _ _ _ _ _ _ _
   | exact ih4 _ _ _ _ _ _ _ _ _ _
   | exact ih5 _ _ _ _ _ _ _ _ _ _ _
   | exact ih6 _ _ _ _ _ _ _ _ _ _ _ _
   | exact ih7 _ _ _ _ _ _ _
   | exact ih8 _ _ _ _ _ _ _
   | exact ih9 _ _ _ _ _ _ _ _
   | exact ih10 _ _ _ _ _ _ _ _ _
   | exact ih11 _ _ _ _ _ _ _ _
   | exact ih12 _ _ _ _ _ _ _ _ _
   | exact ih13 _ _ _ _ _ _ _ _ _ _
   | exact ih14 _ _ _ _ _ _ _ _ _ _
   | exact ih15 _ _ _
   | exact ih16 _ _ _
   | exact linkhouselaw8_placesFault.mono _ _
   | exact linkhouselaw8_sampled.mono _
   | exact linkhouseref8_CallsOf.mono _ _ _ _ _
   | exact linkhouseref8_PartOf.mono _ _ _
   | exact linkhouseref8_ProfileFault.mono _ _
   | exact sampling_Parts.mono _ _ _
   | exact LeO.none _
   | refine LeO.ite ?_ ?_
   | refine LeO.bind ?_ (fun _ => ?_)
  ·intro y0 y1 y2 y3 y4 y5 y6 y7 y8 y9
   unfold lawParts.l4
   repeat' first
   | (with_reducible exact ih0 _ _ _ _ _ _ _ _ _ _ _ _)
   | (with_reducible exact ih1 _ _ _ _ _ _ _ _ _ _ _)
   | (with_reducible exact ih2 _ _ _ _ _ _ _ _ _ _ _)
   | (with_reducible exact ih3 _ _ _ _ _ _ _ _ _ _)
   | (with_reducible exact ih4 _ _ _ _ _ _ _ _ _ _)
   | (with_reducible exact ih5 _ _ _ _ _ _ _ _ _ _ _)
   | (with_reducible exact ih6 _ _ _ _ _ _ _ _ _ _ _ _)
   | (with_reducible exact ih7 _ _ _ _ _ _ _)
   | (with_reducible exact ih8 _ _ _ _ _ _ _)
   | (with_reducible exact ih9 _ _ _ _ _ _ _ _)
   | (with_reducible exact ih10 _ _ _ _ _ _ _ _ _)
   | (with_reducible exact ih11 _ _ _ _ _ _ _ _)
   | (with_reducible exact ih12 _ _ _ _ _ _ _ _ _)
   | (with_reducible exact ih13 _ _ _ _ _ _ _ _ _ _)
   | (with_reducible exact ih14 _ _ _ _ _ _ _ _ _ _)
   | (with_reducible exact ih15 _ _ _)
   | (with_reducible exact ih16 _ _ _)
   | (with_reducible exact linkhouselaw8_placesFault.mono _ _)
   | (with_reducible exact linkhouselaw8_sampled.mono _)
   | (with_reducible exact linkhouseref8_CallsOf.mono _ _ _ _ _)
   | (with_reducible exact linkhouseref8_PartOf.mono _ _ _)
   | (with_reducible exact linkhouseref8_ProfileFault.mono _ _)
   | (with_reducible exact sampling_Parts.mono _ _ _)
   | (with_reducible exact LeO.refl _)
   | (with_reducible exact LeO.none _)
   | (with_reducible refine LeO.ite ?_ ?_)
   | (with_reducible refine LeO.bind ?_ (fun _ => ?_))
   | exact ih0 _ _ _ _ _ _ _ _ _ _ _ _
   | exact ih1 _ _ _ _ _ _ _ _ _ _ _
   | exact ih2 _ _ _ _ _ _ _ _ _ _ _
   | exact ih3 _ _ _ _ _ _ _ _ _ _
   | exact ih4 _ _ _ _ _ _ _ _ _ _
   | exact ih5 _ _ _ _ _ _ _ _ _ _ _
   | exact ih6 _ _ _ _ _ _ _ _ _ _ _ _
   | exact ih7 _ _ _ _ _ _ _
   | exact ih8 _ _ _ _ _ _ _
   | exact ih9 _ _ _ _ _ _ _ _
   | exact ih10 _ _ _ _ _ _ _ _ _
   | exact ih11 _ _ _ _ _ _ _ _
   | exact ih12 _ _ _ _ _ _ _ _ _
   | exact ih13 _ _ _ _ _ _ _ _ _ _
   | exact ih14 _ _ _ _ _ _ _ _ _ _
   | exact ih15 _ _ _
   | exact ih16 _ _ _
   | exact linkhouselaw8_placesFault.mono _ _
   | exact linkhouselaw8_sampled.mono _
   | exact linkhouseref8_CallsOf.mono _ _ _ _ _
   | exact linkhouseref8_PartOf.mono _ _ _
   | exact linkhouseref8_ProfileFault.mono _ _
   | exact sampling_Parts.mono _ _ _
   | exact LeO.none _
   | refine LeO.ite ?_ ?_
   | refine LeO.bind ?_ (fun _ => ?_)
  ·intro y0 y1 y2
   unfold lawParts.j15
   repeat' first
   | (with_reducible exact ih0 _ _ _ _ _ _ _ _ _ _ _ _)
   | (with_reducible exact ih1 _ _ _ _ _ _ _ _ _ _ _)
   | (with_reducible exact ih2 _ _ _ _ _ _ _ _ _ _ _)
   | (with_reducible exact ih3 _ _ _ _ _ _ _ _ _ _)
   | (with_reducible exact ih4 _ _ _ _ _ _ _ _ _ _)
   | (with_reducible exact ih5 _ _ _ _ _ _ _ _ _ _ _)
   | (with_reducible exact ih6 _ _ _ _ _ _ _ _ _ _ _ _)
   | (with_reducible exact ih7 _ _ _ _ _ _ _)
   | (with_reducible exact ih8 _ _ _ _ _ _ _)
   | (with_reducible exact ih9 _ _ _ _ _ _ _ _)
   | (with_reducible exact ih10 _ _ _ _ _ _ _ _ _)
   | (with_reducible exact ih11 _ _ _ _ _ _ _ _)
   | (with_reducible exact ih12 _ _ _ _ _ _ _ _ _)
   | (with_reducible exact ih13 _ _ _ _ _ _ _ _ _ _)
   | (with_reducible exact ih14 _ _ _ _ _ _ _ _ _ _)
   | (with_reducible exact ih15 _ _ _)
   | (with_reducible exact ih16 _ _ _)
   | (with_reducible exact linkhouselaw8_placesFault.mono _ _)
   | (with_reducible exact linkhouselaw8_sampled.mono _)
   | (with_reducible exact linkhouseref8_CallsOf.mono _ _ _ _ _)
   | (with_reducible exact linkhouseref8_PartOf.mono _ _ _)
   | (with_reducible exact linkhouseref8_ProfileFault.mono _ _)
   | (with_reducible exact sampling_Parts.mono _ _ _)
   | (with_reducible exact LeO.refl _)
   | (with_reducible exact LeO.none _)
   | (with_reducible refine LeO.ite ?_ ?_)
   | (with_reducible refine LeO.bind ?_ (fun _ => ?_))
   | exact ih0 _ _ _ _ _ _ _ _ _ _ _ _
   | exact ih1 _ _ _ _ _ _ _ _ _ _ _
   | exact ih2 _ _ _ _ _ _ _ _ _ _ _
   | exact ih3 _ _ _ _ _ _ _ _ _ _
   | exact ih4 _ _ _ _ _ _ _ _ _ _
   | exact ih5 _ _ _ _ _ _ _ _ _ _ _
   | exact ih6 _ _ _ _ _ _ _ _ _ _ _ _
   | exact ih7 _ _ _ _ _ _ _
   | exact ih8 _ _ _ _ _ _ _
   | exact ih9 _ _ _ _ _ _ _ _
   | exact ih10 _ _ _ _ _ _ _ _ _
   | exact ih11 _ _ _ _ _ _ _ _
   | exact ih12 _ _ _ _ _ _ _ _ _
   | exact ih13 _ _ _ _ _ _ _ _ _ _
   | exact ih14 _ _ _ _ _ _ _ _ _ _
   | exact ih15 _ _ _
   | exact ih16 _ _ _
   | exact linkhouselaw8_placesFault.mono _ _
   | exact linkhouselaw8_sampled.mono _
   | exact linkhouseref8_CallsOf.mono _ _ _ _ _
   | exact linkhouseref8_PartOf.mono _ _ _
   | exact linkhouseref8_ProfileFault.mono _ _
   | exact sampling_Parts.mono _ _ _
   | exact LeO.none _
   | refine LeO.ite ?_ ?_
   | refine LeO.bind ?_ (fun _ => ?_)
  ·intro y0 y1 y2
   unfold lawParts.l5
   repeat' first
   | (with_reducible exact ih0 _ _ _ _ _ _ _ _ _ _ _ _)
   | (with_reducible exact ih1 _ _ _ _ _ _ _ _ _ _ _)
   | (with_reducible exact ih2 _ _ _ _ _ _ _ _ _ _ _)
   | (with_reducible exact ih3 _ _ _ _ _ _ _ _ _ _)
   | (with_reducible exact ih4 _ _ _ _ _ _ _ _ _ _)
   | (with_reducible exact ih5 _ _ _ _ _ _ _ _ _ _ _)
   | (with_reducible exact ih6 _ _ _ _ _ _ _ _ _ _ _ _)
   | (with_reducible exact ih7 _ _ _ _ _ _ _)
   | (with_reducible exact ih8 _ _ _ _ _ _ _)
   | (with_reducible exact ih9 _ _ _ _ _ _ _ _)
   | (with_reducible exact ih10 _ _ _ _ _ _ _ _ _)
   | (with_reducible exact ih11 _ _ _ _ _ _ _ _)
   | (with_reducible exact ih12 _ _ _ _ _ _ _ _ _)
   | (with_reducible exact ih13 _ _ _ _ _ _ _ _ _ _)
   | (with_reducible exact ih14 _ _ _ _ _ _ _ _ _ _)
   | (with_reducible exact ih15 _ _ _)
   | (with_reducible exact ih16 _ _ _)
   | (with_reducible exact linkhouselaw8_placesFault.mono _ _)
   | (with_reducible exact linkhouselaw8_sampled.mono _)
   | (with_reducible exact linkhouseref8_CallsOf.mono _ _ _ _ _)
   | (with_reducible exact linkhouseref8_PartOf.mono _ _ _)
   | (with_reducible exact linkhouseref8_ProfileFault.mono _ _)
   | (with_reducible exact sampling_Parts.mono _ _ _)
   | (with_reducible exact LeO.refl _)
   | (with_reducible exact LeO.none _)
   | (with_reducible refine LeO.ite ?_ ?_)
   | (with_reducible refine LeO.bind ?_ (fun _ => ?_))
   | exact ih0 _ _ _ _ _ _ _ _ _ _ _ _
   | exact ih1 _ _ _ _ _ _ _ _ _ _ _
   | exact ih2 _ _ _ _ _ _ _ _ _ _ _
   | exact ih3 _ _ _ _ _ _ _ _ _ _
   | exact ih4 _ _ _ _ _ _ _ _ _ _
   | exact ih5 _ _ _ _ _ _ _ _ _ _ _
   | exact ih6 _ _ _ _ _ _ _ _ _ _ _ _
   | exact ih7 _ _ _ _ _ _ _
   | exact ih8 _ _ _ _ _ _ _
   | exact ih9 _ _ _ _ _ _ _ _
   | exact ih10 _ _ _ _ _ _ _ _ _
   | exact ih11 _ _ _ _ _ _ _ _
   | exact ih12 _ _ _ _ _ _ _ _ _
   | exact ih13 _ _ _ _ _ _ _ _ _ _
   | exact ih14 _ _ _ _ _ _ _ _ _ _
   | exact ih15 _ _ _
   | exact ih16 _ _ _
   | exact linkhouselaw8_placesFault.mono _ _
   | exact linkhouselaw8_sampled.mono _
   | exact linkhouseref8_CallsOf.mono _ _ _ _ _
   | exact linkhouseref8_PartOf.mono _ _ _
   | exact linkhouseref8_ProfileFault.mono _ _
   | exact sampling_Parts.mono _ _ _
   | exact LeO.none _
   | refine LeO.ite ?_ ?_
   | refine LeO.bind ?_ (fun _ => ?_)
theorem lawParts.mono : ∀ a0 a1 a2 k, LeO (lawParts.f k a0 a1 a2) (lawParts.f (k + 1) a0 a1 a2) := by
 intro a0 a1 a2 k
 obtain ⟨ih0, ih1, ih2, ih3, ih4, ih5, ih6, ih7, ih8, ih9, ih10, ih11, ih12, ih13, ih14, ih15, ih16⟩ := lawParts.mono_l k
 unfold lawParts.f
 repeat' first
   | (with_reducible exact ih0 _ _ _ _ _ _ _ _ _ _ _ _)
   | (with_reducible exact ih1 _ _ _ _ _ _ _ _ _ _ _)
   | (with_reducible exact ih2 _ _ _ _ _ _ _ _ _ _ _)
   | (with_reducible exact ih3 _ _ _ _ _ _ _ _ _ _)
   | (with_reducible exact ih4 _ _ _ _ _ _ _ _ _ _)
   | (with_reducible exact ih5 _ _ _ _ _ _ _ _ _ _ _)
   | (with_reducible exact ih6 _ _ _ _ _ _ _ _ _ _ _ _)
   | (with_reducible exact ih7 _ _ _ _ _ _ _)
   | (with_reducible exact ih8 _ _ _ _ _ _ _)
   | (with_reducible exact ih9 _ _ _ _ _ _ _ _)
   | (with_reducible exact ih10 _ _ _ _ _ _ _ _ _)
   | (with_reducible exact ih11 _ _ _ _ _ _ _ _)
   | (with_reducible exact ih12 _ _ _ _ _ _ _ _ _)
   | (with_reducible exact ih13 _ _ _ _ _ _ _ _ _ _)
   | (with_reducible exact ih14 _ _ _ _ _ _ _ _ _ _)
   | (with_reducible exact ih15 _ _ _)
   | (with_reducible exact ih16 _ _ _)
   | (with_reducible exact linkhouselaw8_placesFault.mono _ _)
   | (with_reducible exact linkhouselaw8_sampled.mono _)
   | (with_reducible exact linkhouseref8_CallsOf.mono _ _ _ _ _)
   | (with_reducible exact linkhouseref8_PartOf.mono _ _ _)
   | (with_reducible exact linkhouseref8_ProfileFault.mono _ _)
   | (with_reducible exact sampling_Parts.mono _ _ _)
   | (with_reducible exact LeO.refl _)
   | (with_reducible exact LeO.none _)
   | (with_reducible refine LeO.ite ?_ ?_)
   | (with_reducible refine LeO.bind ?_ (fun _ => ?_))
   | exact ih0 _ _ _ _ _ _ _ _ _ _ _ _
   | exact ih1 _ _ _ _ _ _ _ _ _ _ _
   | exact ih2 _ _ _ _ _ _ _ _ _ _ _
   | exact ih3 _ _ _ _ _ _ _ _ _ _
   | exact ih4 _ _ _ _ _ _ _ _ _ _
   | exact ih5 _ _ _ _ _ _ _ _ _ _ _
   | exact ih6 _ _ _ _ _ _ _ _ _ _ _ _
   | exact ih7 _ _ _ _ _ _ _
   | exact ih8 _ _ _ _ _ _ _
   | exact ih9 _ _ _ _ _ _ _ _
   | exact ih10 _ _ _ _ _ _ _ _ _
   | exact ih11 _ _ _ _ _ _ _ _
   | exact ih12 _ _ _ _ _ _ _ _ _
   | exact ih13 _ _ _ _ _ _ _ _ _ _
   | exact ih14 _ _ _ _ _ _ _ _ _ _
   | exact ih15 _ _ _
   | exact ih16 _ _ _
   | exact linkhouselaw8_placesFault.mono _ _
   | exact linkhouselaw8_sampled.mono _
   | exact linkhouseref8_CallsOf.mono _ _ _ _ _
   | exact linkhouseref8_PartOf.mono _ _ _
   | exact linkhouseref8_ProfileFault.mono _ _
   | exact sampling_Parts.mono _ _ _
   | exact LeO.none _
   | refine LeO.ite ?_ ?_
   | refine LeO.bind ?_ (fun _ => ?_)
end Go.Proofs.Ytjchmckbhfoopaa.PP
