/- Parts and CallsOf in plain Lean: the plain facts on them. Conditions: those of each fact. -/
import Derived.Test.YtjchmckbhfoopaaPPfault
import Derived.Test.YtjchmckbhfoopaaPProw
import Derived.Test.YtjchmckbhfoopaaPPx8
import Derived.Test.YtjchmckbhfoopaaPPx9
import Derived.Test.YtjchmckbhfoopaaPPx10
import Derived.Test.YtjchmckbhfoopaaPPx11
namespace Go.Proofs.Ytjchmckbhfoopaa.PP
open Go.RowKit Go.Proofs.YtjchmckbhfoopaaW.PrintWords Go.Proofs.YtjchmckbhfoopaaW.PrintLast Go.Proofs.YtjchmckbhfoopaaW.PrintMore
set_option linter.unusedVariables false
set_option linter.unusedSimpArgs false
theorem rd59d (l : List S59) (m : Nat) (e : S59) (es : List S59) (h : l.drop m = e :: es) : rd_T59 l (m : Int) = e ∧ m < l.length ∧ l.drop (m + 1) = es := by
  have hm : m < l.length := by
    rcases Nat.lt_or_ge m l.length with h1 | h1
    · exact h1
    · rw [List.drop_eq_nil_of_le h1] at h; cases h
  rw [List.drop_eq_getElem_cons hm] at h
  injection h with h1 h2
  exact ⟨by rw [rd59 l m hm]; exact h1, hm, h2⟩
theorem drop_nil_le {α : Type} {l : List α} {m : Nat} (h : l.drop m = []) : l.length ≤ m := by
  have := congrArg List.length h
  simp at this
  omega
def pfI (i : Int) : Int × Int := if i < 0 then (0, 0) else (3, -100 - i)
theorem idx_cons {α : Type} (p : α → Bool) (x : α) (xs : List α) (m : Nat) : idx p (x :: xs) (m : Int) = if p x = true then (m : Int) else idx p xs ((m + 1 : Nat) : Int) := rfl
theorem splaces_l0 (l : List S59) (hl : l.length ≤ 100000) : ∀ (es : List S59) (m : Nat), l.drop m = es → m ≤ l.length → Ev (fun k => sampling_placesFault.l0 k l (l.length : Int) m) (pfI (idx badPlace es m)) := by
  intro es
  induction es with
  | nil =>
    intro m hd hm
    have hml := drop_nil_le hd
    refine Ev.step (f := fun _ => some (0, 0)) (fun k => ?_) (by simpa [idx, pfI] using Ev.now ((0 : Int), (0 : Int)))
    simp only [sampling_placesFault.l0]
    rw [if_neg (by omega)]
  | cons e es ih =>
    intro m hd hm
    obtain ⟨hrd, hml, hd'⟩ := rd59d l m e es hd
    have hw : wrap64 ((m : Int) + 1) = ((m + 1 : Nat) : Int) := by rw [wrap_id (by omega) (by omega)]; rfl
    have hw' : wrap64 (-100 - (m : Int)) = -100 - (m : Int) := wrap_id (by omega) (by omega)
    rw [idx_cons]
    by_cases hb : badPlace e = true
    · rw [if_pos hb]
      have hp : pfI (m : Int) = (3, -100 - (m : Int)) := by unfold pfI; rw [if_neg (by omega)]
      rw [hp]
      refine Ev.step (f := fun _ => some (3, -100 - (m : Int))) (fun k => ?_) (Ev.now _)
      simp only [sampling_placesFault.l0]
      rw [if_pos (by omega), if_pos (by omega), if_pos (by omega), hrd, hw', hw]
      simp only [badPlace, decide_eq_true_eq] at hb
      split
      · rfl
      split
      · rfl
      split
      · rfl
      split
      · rfl
      omega
    · rw [if_neg hb]
      refine Ev.step (f := fun k => sampling_placesFault.l0 k l (l.length : Int) ((m + 1 : Nat) : Int)) (fun k => ?_) (ih (m + 1) hd' (by omega))
      simp only [sampling_placesFault.l0]
      simp only [badPlace, decide_eq_true_eq] at hb
      rw [if_pos (by omega), if_pos (by omega), if_pos (by omega), hrd, hw', hw, if_neg (by omega), if_neg (by omega), if_neg (by omega), if_neg (by omega)]
theorem splaces_ev (l : List S59) (hl : l.length ≤ 100000) : Ev (fun k => sampling_placesFault.f k l) (pfI (idx badPlace l 0)) := splaces_l0 l hl l 0 rfl (Nat.zero_le _)
theorem lplaces_l0 (l : List S59) (hl : l.length ≤ 100000) : ∀ (es : List S59) (m : Nat), l.drop m = es → m ≤ l.length → Ev (fun k => linkhouselaw8_placesFault.l0 k l m) (pfI (idx badPlace es m)) := by
  intro es
  induction es with
  | nil =>
    intro m hd hm
    have hml := drop_nil_le hd
    refine Ev.step (f := fun _ => some (0, 0)) (fun k => ?_) (by simpa [idx, pfI] using Ev.now ((0 : Int), (0 : Int)))
    simp only [linkhouselaw8_placesFault.l0]
    rw [if_neg (by omega)]
  | cons e es ih =>
    intro m hd hm
    obtain ⟨hrd, hml, hd'⟩ := rd59d l m e es hd
    have hw : wrap64 ((m : Int) + 1) = ((m + 1 : Nat) : Int) := by rw [wrap_id (by omega) (by omega)]; rfl
    have hw' : wrap64 (-100 - (m : Int)) = -100 - (m : Int) := wrap_id (by omega) (by omega)
    have hin : ∀ a b : Int, linkhouseref7_In.f a 0 b = some (decide (0 ≤ a ∧ a ≤ b)) := by
      intro a b
      unfold linkhouseref7_In.f
      by_cases h : 0 ≤ a
      · rw [if_pos h]; simp [h]
      · rw [if_neg h]; simp [h]
    rw [idx_cons]
    by_cases hb : badPlace e = true
    · rw [if_pos hb]
      have hp : pfI (m : Int) = (3, -100 - (m : Int)) := by unfold pfI; rw [if_neg (by omega)]
      rw [hp]
      refine Ev.step (f := fun _ => some (3, -100 - (m : Int))) (fun k => ?_) (Ev.now _)
      simp only [linkhouselaw8_placesFault.l0, linkhouseref7_At.f]
      rw [if_pos (by omega), if_pos (by omega), hrd, hw', hw, hin, hin]
      simp only [Option.bind_some]
      simp only [badPlace, decide_eq_true_eq] at hb ⊢
      split
      · split
        · omega
        · rfl
      · rfl
    · rw [if_neg hb]
      refine Ev.step (f := fun k => linkhouselaw8_placesFault.l0 k l ((m + 1 : Nat) : Int)) (fun k => ?_) (ih (m + 1) hd' (by omega))
      simp only [linkhouselaw8_placesFault.l0]
      simp only [badPlace, decide_eq_true_eq] at hb
      rw [if_pos (by omega), if_pos (by omega), hrd, hw', hw, hin, hin]
      simp only [Option.bind_some, decide_eq_true_eq]
      rw [if_pos (by omega), if_pos (by omega)]
theorem lplaces_ev (l : List S59) (hl : l.length ≤ 100000) : Ev (fun k => linkhouselaw8_placesFault.f k l) (pfI (idx badPlace l 0)) := lplaces_l0 l hl l 0 rfl (Nat.zero_le _)
theorem partof_l0 (l : List S59) (a : Int) (hl : l.length ≤ 100000) (ha : 0 ≤ a ∧ a ≤ 1048576) (hb : ∀ x ∈ l, badPlace x = false) : ∀ (es : List S59) (m : Nat), l.drop m = es → m ≤ l.length → Ev (fun k => linkhouseref8_PartOf.l0 k l a m) (idx (inPlace a) es m) := by
  intro es
  induction es with
  | nil =>
    intro m hd hm
    have hml := drop_nil_le hd
    refine Ev.step (f := fun _ => some (-1)) (fun k => ?_) (by simpa [idx] using Ev.now (-1 : Int))
    simp only [linkhouseref8_PartOf.l0]
    rw [if_neg (by omega)]
  | cons e es ih =>
    intro m hd hm
    obtain ⟨hrd, hml, hd'⟩ := rd59d l m e es hd
    have hw : wrap64 ((m : Int) + 1) = ((m + 1 : Nat) : Int) := by rw [wrap_id (by omega) (by omega)]; rfl
    have he := hb e (by rw [← hrd, rd59 l m hml]; exact List.getElem_mem hml)
    simp only [badPlace, decide_eq_false_iff_not] at he
    rw [idx_cons]
    by_cases hi : inPlace a e = true
    · rw [if_pos hi]
      refine Ev.step (f := fun _ => some (m : Int)) (fun k => ?_) (Ev.now _)
      simp only [inPlace, decide_eq_true_eq] at hi
      simp only [linkhouseref8_PartOf.l0]
      rw [if_pos (by omega), if_pos (by omega), hrd, if_pos (by omega), wrap_id (by omega) (by omega), if_pos (by omega)]
    · rw [if_neg hi]
      refine Ev.step (f := fun k => linkhouseref8_PartOf.l0 k l a ((m + 1 : Nat) : Int)) (fun k => ?_) (ih (m + 1) hd' (by omega))
      simp only [inPlace, decide_eq_true_eq] at hi
      simp only [linkhouseref8_PartOf.l0]
      rw [if_pos (by omega), if_pos (by omega), hrd, hw]
      by_cases h1 : a ≥ e.f0
      · rw [if_pos h1, wrap_id (by omega) (by omega), if_neg (by omega)]
      · rw [if_neg h1]
theorem partof_ev (l : List S59) (a : Int) (hl : l.length ≤ 100000) (ha : 0 ≤ a ∧ a ≤ 1048576) (hb : ∀ x ∈ l, badPlace x = false) : Ev (fun k => linkhouseref8_PartOf.f k l a) (idx (inPlace a) l 0) := partof_l0 l a hl ha hb l 0 rfl (Nat.zero_le _)
end Go.Proofs.Ytjchmckbhfoopaa.PP
