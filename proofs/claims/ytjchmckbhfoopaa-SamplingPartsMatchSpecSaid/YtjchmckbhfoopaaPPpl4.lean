/- What sampling.Parts answers, in plain Lean. Conditions: those of each fact. -/
import Derived.Test.YtjchmckbhfoopaaPPpl1
namespace Go.Proofs.Ytjchmckbhfoopaa.PP
open Go.RowKit Go.Proofs.YtjchmckbhfoopaaW.PrintWords Go.Proofs.YtjchmckbhfoopaaW.PrintLast Go.Proofs.YtjchmckbhfoopaaW.PrintMore
set_option linter.unusedVariables false
set_option linter.unusedSimpArgs false
def sumP : List S32 → S59 → Int
  | [], _ => 0
  | s :: ss, p => (if inPlace s.f0 p = true then s.f1 else 0) + sumP ss p
def partsS (a : List S32) (ls : List S59) : List Int × Int × Int :=
  if vf a ≠ (0, 0) then ([], vf a) else if 256 < ls.length then ([], 2, -2) else if idx badPlace ls 0 < 0 then (ls.map (fun p => sumP a p), 0, 0) else ([], 3, -100 - idx badPlace ls 0)
theorem parts_l1 (a : List S32) (ga : GoodP a) (L : List Int) (hL : L.length ≤ 256) (ls : List S59) (n i : Int) (hi : 0 ≤ i ∧ i ≤ 256) (p : S59) (hp : badPlace p = false) (R : List Int × Int × Int) (S : Int) (hS : Ev (fun k => sampling_Parts.l0 k a (L ++ [S]) ls n (i + 1)) R) :
    ∀ (es : List S32) (m : Nat) (acc : Int), a.drop m = es → m ≤ a.length → 0 ≤ acc → acc ≤ m * 1000000 → acc + sumP es p = S →
      Ev (fun k => sampling_Parts.l1 k a L acc ls n i a (a.length : Int) m p.f0 p.f1 p.f2 p.f3 p.f4) R := by
  have hlen := ga.len
  have hwi : wrap64 (i + 1) = i + 1 := wrap_id (by omega) (by omega)
  intro es
  induction es with
  | nil =>
    intro m acc hd hm h0 h1 hs
    have hml := drop_nil_le hd
    refine Ev.step (f := fun k => sampling_Parts.l0 k a (L ++ [S]) ls n (i + 1)) (fun k => ?_) hS
    simp only [sampling_Parts.l1]
    rw [if_neg (by omega), if_pos (by omega), hwi]
    have : acc = S := by simpa [sumP] using hs
    rw [this]
  | cons e es ih =>
    intro m acc hd hm h0 h1 hs
    obtain ⟨hrd, hml, hd'⟩ := rd32 a m e es hd
    have hw : wrap64 ((m : Int) + 1) = ((m + 1 : Nat) : Int) := by rw [wrap_id (by omega) (by omega)]; rfl
    have he := ga.rng e (by rw [show e = a[m] from by rw [← hrd]; simp [rd_T32, hml]]; exact List.getElem_mem hml)
    have hp' := hp
    simp only [badPlace, decide_eq_false_iff_not] at hp'
    by_cases hin : inPlace e.f0 p = true
    · refine Ev.step (f := fun k => sampling_Parts.l1 k a L (acc + e.f1) ls n i a (a.length : Int) ((m + 1 : Nat) : Int) p.f0 p.f1 p.f2 p.f3 p.f4) (fun k => ?_) (ih (m + 1) (acc + e.f1) hd' (by omega) (by omega) (by push_cast; omega) (by rw [← hs]; simp only [sumP]; rw [if_pos hin]; omega))
      simp only [inPlace, decide_eq_true_eq] at hin
      simp only [sampling_Parts.l1]
      rw [if_pos (by omega), if_pos (by omega), if_pos (by omega), hrd, if_pos (by omega), wrap_id (x := e.f0 - p.f0) (by omega) (by omega), if_pos (by omega), wrap_id (x := acc + e.f1) (by omega) (by omega), hw]
    · refine Ev.step (f := fun k => sampling_Parts.l1 k a L acc ls n i a (a.length : Int) ((m + 1 : Nat) : Int) p.f0 p.f1 p.f2 p.f3 p.f4) (fun k => ?_) (ih (m + 1) acc hd' (by omega) h0 (by push_cast; omega) (by rw [← hs]; simp only [sumP]; rw [if_neg hin]; omega))
      simp only [inPlace, decide_eq_true_eq] at hin
      simp only [sampling_Parts.l1]
      rw [if_pos (by omega), if_pos (by omega), if_pos (by omega), hrd, hw]
      by_cases h2 : e.f0 ≥ p.f0
      · rw [if_pos h2, wrap_id (x := e.f0 - p.f0) (by omega) (by omega), if_neg (by omega)]
      · rw [if_neg h2]
theorem parts_l0 (a : List S32) (ga : GoodP a) (ls : List S59) (hl : ls.length ≤ 256) (hb : ∀ p ∈ ls, badPlace p = false) : ∀ (ps : List S59) (i : Nat) (L : List Int), ls.drop i = ps → i ≤ ls.length → L.length = i →
    Ev (fun k => sampling_Parts.l0 k a L ls (ls.length : Int) i) (L ++ ps.map (fun p => sumP a p), 0, 0) := by
  intro ps
  induction ps with
  | nil =>
    intro i L hd hi hL
    have hml := drop_nil_le hd
    refine Ev.step (f := fun _ => some (L, 0, 0)) (fun k => ?_) (by simpa using Ev.now (L, (0 : Int), (0 : Int)))
    simp only [sampling_Parts.l0]
    rw [if_neg (by omega)]
  | cons p ps ih =>
    intro i L hd hi hL
    obtain ⟨hrd, hml, hd'⟩ := rd59d ls i p ps hd
    have hp := hb p (by rw [← hrd, rd59 ls i hml]; exact List.getElem_mem hml)
    have := ih (i + 1) (L ++ [sumP a p]) hd' (by omega) (by simp [hL])
    rw [List.append_assoc] at this
    refine Ev.step (f := fun k => sampling_Parts.l1 k a L 0 ls (ls.length : Int) i a (a.length : Int) ((0 : Nat) : Int) p.f0 p.f1 p.f2 p.f3 p.f4) (fun k => ?_) (parts_l1 a ga L (by omega) ls _ _ ⟨by omega, by omega⟩ p hp _ (sumP a p) (by simpa using this) a 0 0 rfl (Nat.zero_le _) (Int.le_refl _) (by simp) (by simp))
    simp only [sampling_Parts.l0]
    rw [if_pos (by omega), if_pos (by omega), if_pos (by omega), hrd]
    rfl
theorem parts_ev (a : List S32) (ls : List S59) : Ev (fun k => sampling_Parts.f k a ls) (partsS a ls) := by
  unfold partsS
  refine Ev.bind (f := fun k bt146 => (if (!(bt146.1 == 0) || (!(bt146.2 == 0))) = true then (some (([] : List Int), bt146.1, bt146.2)) else (if (ls.length : Int) > 256 then (some (([] : List Int), 2, (-2))) else ((sampling_placesFault.f k ls).bind fun bt149 => (if (!(bt149.1 == 0) || (!(bt149.2 == 0))) = true then (some (([] : List Int), bt149.1, bt149.2)) else (sampling_Parts.l0 k a ([] : List Int) ls (ls.length : Int) 0)))))) (validate_ev a) ?_
  by_cases h1 : vf a = (0, 0)
  · rw [if_neg (fun h => h h1), h1]
    have hz : ((!((0 : Int) == 0) || (!((0 : Int) == 0))) = true) = False := by simp
    simp only [hz, if_false]
    by_cases h2 : 256 < ls.length
    · rw [if_pos h2]
      refine Ev.congr (f := fun _ => some ([], 2, -2)) (fun k => ?_) (Ev.now _)
      rw [if_pos (by omega)]
    · rw [if_neg h2]
      refine Ev.congr (f := fun k => (sampling_placesFault.f k ls).bind fun bt149 => (if (!(bt149.1 == 0) || (!(bt149.2 == 0))) = true then (some (([] : List Int), bt149.1, bt149.2)) else (sampling_Parts.l0 k a ([] : List Int) ls (ls.length : Int) 0))) (fun k => ?_) ?_
      · rw [if_neg (by omega)]
      · refine Ev.bind (splaces_ev ls (by omega)) ?_
        by_cases h3 : idx badPlace ls 0 < 0
        · rw [if_pos h3]
          have hz2 : pfI (idx badPlace ls 0) = (0, 0) := by unfold pfI; rw [if_pos h3]
          rw [hz2]
          simp only [hz, if_false]
          have := parts_l0 a ((vf_good a).1 h1) ls (by omega) (idx_no badPlace ls 0 (Int.le_refl _) h3) ls 0 [] rfl (Nat.zero_le _) rfl
          simpa using this
        · rw [if_neg h3]
          have hz2 : pfI (idx badPlace ls 0) = (3, -100 - idx badPlace ls 0) := by unfold pfI; rw [if_neg h3]
          rw [hz2]
          have hz3 : ((!((3 : Int) == 0) || (!((-100 - idx badPlace ls 0) == 0))) = true) = True := by simp
          simp only [hz3, if_true]
          exact Ev.now _
  · rw [if_pos h1]
    have := (nz_iff (vf a)).2 h1
    simp only [this, if_true]
    exact Ev.now _
end Go.Proofs.Ytjchmckbhfoopaa.PP
