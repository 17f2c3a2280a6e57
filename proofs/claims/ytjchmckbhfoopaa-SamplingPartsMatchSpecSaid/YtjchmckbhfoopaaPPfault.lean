/- What Validate and ProfileFault answer, in plain Lean. Conditions: none. -/
import Derived.Test.YtjchmckbhfoopaaPPtake
import Derived.Test.YtjchmckbhfoopaaPPx6
import Derived.Test.YtjchmckbhfoopaaPPx7
namespace Go.Proofs.Ytjchmckbhfoopaa.PP
open Go.RowKit Go.Proofs.YtjchmckbhfoopaaW.PrintWords Go.Proofs.YtjchmckbhfoopaaW.PrintLast Go.Proofs.YtjchmckbhfoopaaW.PrintMore
set_option linter.unusedVariables false
set_option linter.unusedSimpArgs false
/-! #### counts by address -/
def Ris (l : List S32) : Prop := l.Pairwise (fun x y => x.f0 < y.f0)
def hasA (l : List S32) (a : Int) : Prop := ∃ x ∈ l, x.f0 = a
def InR (l : List S32) : Prop := ∀ x ∈ l, 0 ≤ x.f0 ∧ x.f0 ≤ 1048576
def vfL : List S32 → Int → Option Int → Int × Int
  | [], _, _ => (0, 0)
  | x :: xs, i, p => if x.f0 < 0 ∨ x.f0 > 1048575 ∨ x.f1 < 1 ∨ x.f1 > 1000000 then (3, i) else
      match p with
      | none => vfL xs (i + 1) (some x.f0)
      | some q => if x.f0 ≤ q then (5, i) else vfL xs (i + 1) (some x.f0)
def vf (l : List S32) : Int × Int := if (l.length : Int) > 200 then (2, -1) else vfL l 0 none
def prevA (l : List S32) (m : Nat) : Option Int := if m = 0 then none else some (rd_T32 l ((m - 1 : Nat) : Int)).f0
theorem prevA_succ (l : List S32) (m : Nat) (e : S32) (h : rd_T32 l (m : Int) = e) : prevA l (m + 1) = some e.f0 := by
  unfold prevA; rw [if_neg (by omega), Nat.add_sub_cancel, h]
theorem validate_l0 (l : List S32) (hl : l.length ≤ 200) : ∀ (es : List S32) (m : Nat), l.drop m = es → m ≤ l.length → Ev (fun k => sampling_Validate.l0 k l l (l.length : Int) m) (vfL es m (prevA l m)) := by
  intro es
  induction es with
  | nil =>
    intro m hd hm
    have hml : l.length ≤ m := by
      rcases Nat.lt_or_ge m l.length with h | h
      · rw [List.drop_eq_getElem_cons h] at hd; cases hd
      · exact h
    refine Ev.step (f := fun _ => some (0, 0)) (fun k => ?_) (Ev.now _)
    simp only [sampling_Validate.l0]
    rw [if_neg (by omega)]
  | cons e es ih =>
    intro m hd hm
    obtain ⟨hrd, hml, hd'⟩ := rd32 l m e es hd
    have hw : wrap64 ((m : Int) + 1) = ((m + 1 : Nat) : Int) := by rw [wrap_id (by omega) (by omega)]; rfl
    have hm1 : ((m : Int) + 1) = ((m + 1 : Nat) : Int) := rfl
    by_cases hbad : e.f0 < 0 ∨ e.f0 > 1048575 ∨ e.f1 < 1 ∨ e.f1 > 1000000
    · refine Ev.step (f := fun k => sampling_Validate.j1 k l m l (l.length : Int) m true e.f0 e.f1) (fun k => ?_) ?_
      · simp only [sampling_Validate.l0]
        rw [if_pos (by omega), if_pos (by omega), if_pos (by omega), hrd]
        split
        · rfl
        · split
          · rfl
          · split
            · rfl
            · rw [decide_eq_true (by omega)]
      · refine Ev.step (f := fun _ => some (vfL (e :: es) m (prevA l m))) (fun k => ?_) (Ev.now _)
        simp only [sampling_Validate.j1, vfL]
        rw [if_pos trivial, if_pos hbad]
    · refine Ev.step (f := fun k => sampling_Validate.j1 k l m l (l.length : Int) m false e.f0 e.f1) (fun k => ?_) ?_
      · simp only [sampling_Validate.l0]
        rw [if_pos (by omega), if_pos (by omega), if_pos (by omega), hrd, if_neg (by omega), if_neg (by omega), if_neg (by omega), decide_eq_false (by omega)]
      · have hnext := ih (m + 1) hd' (by omega)
        rw [prevA_succ l m e hrd] at hnext
        by_cases h0 : m = 0
        · subst h0
          refine Ev.step (f := fun k => sampling_Validate.l0 k l l (l.length : Int) ((0 + 1 : Nat) : Int)) (fun k => ?_) ?_
          · simp only [sampling_Validate.j1]
            rw [if_neg (by simp), if_neg (by omega), hw]
          · simp only [vfL, prevA]
            rw [if_neg hbad]
            exact hnext
        · have hp : prevA l m = some (rd_T32 l ((m - 1 : Nat) : Int)).f0 := by unfold prevA; rw [if_neg h0]
          have hwm : wrap64 ((m : Int) - 1) = ((m - 1 : Nat) : Int) := by rw [wrap_id (by omega) (by omega)]; omega
          by_cases h5 : e.f0 ≤ (rd_T32 l ((m - 1 : Nat) : Int)).f0
          · refine Ev.step (f := fun _ => some (vfL (e :: es) m (prevA l m))) (fun k => ?_) (Ev.now _)
            simp only [sampling_Validate.j1, vfL, hp]
            rw [if_neg (by simp), if_pos (by omega), hwm, if_pos (by omega), if_pos (by omega), if_pos h5, if_neg hbad, if_pos h5]
          · refine Ev.step (f := fun k => sampling_Validate.l0 k l l (l.length : Int) ((m + 1 : Nat) : Int)) (fun k => ?_) ?_
            · simp only [sampling_Validate.j1]
              rw [if_neg (by simp), if_pos (by omega), hwm, if_pos (by omega), if_pos (by omega), if_neg h5, hw]
            · simp only [vfL, hp]
              rw [if_neg hbad, if_neg h5]
              exact hnext
theorem validate_ev (l : List S32) : Ev (fun k => sampling_Validate.f k l) (vf l) := by
  unfold vf
  by_cases h1 : (l.length : Int) > 200
  · refine Ev.congr (f := fun _ => some (2, -1)) (fun k => ?_) (by rw [if_pos h1]; exact Ev.now _)
    simp only [sampling_Validate.f]
    rw [if_pos h1]
  · rw [if_neg h1]
    refine Ev.congr (f := fun k => sampling_Validate.l0 k l l (l.length : Int) ((0 : Nat) : Int)) (fun k => ?_) (validate_l0 l (by omega) l 0 rfl (by omega))
    simp only [sampling_Validate.f]
    rw [if_neg h1]
    rfl
theorem pfault_l0 (l : List S32) (hl : l.length ≤ 200) : ∀ (es : List S32) (m : Nat), l.drop m = es → m ≤ l.length → Ev (fun k => linkhouseref8_ProfileFault.l0 k l m) (vfL es m (prevA l m)) := by
  intro es
  induction es with
  | nil =>
    intro m hd hm
    have hml : l.length ≤ m := by
      rcases Nat.lt_or_ge m l.length with h | h
      · rw [List.drop_eq_getElem_cons h] at hd; cases hd
      · exact h
    refine Ev.step (f := fun _ => some (0, 0)) (fun k => ?_) (Ev.now _)
    simp only [linkhouseref8_ProfileFault.l0]
    rw [if_neg (by omega)]
  | cons e es ih =>
    intro m hd hm
    obtain ⟨hrd, hml, hd'⟩ := rd32 l m e es hd
    have hw : wrap64 ((m : Int) + 1) = ((m + 1 : Nat) : Int) := by rw [wrap_id (by omega) (by omega)]; rfl
    by_cases hbad : e.f0 < 0 ∨ e.f0 > 1048575 ∨ e.f1 < 1 ∨ e.f1 > 1000000
    · refine Ev.step (f := fun k => linkhouseref8_ProfileFault.j1 k l m true) (fun k => ?_) ?_
      · simp only [linkhouseref8_ProfileFault.l0, linkhouseref7_In.f]
        rw [if_pos (by omega), if_pos (by omega), hrd]
        by_cases a1 : 0 ≤ e.f0
        · rw [if_pos a1]
          by_cases a2 : e.f0 ≤ 1048575
          · simp only [Option.bind_some, decide_eq_true a2, if_true]
            by_cases a3 : 1 ≤ e.f1
            · rw [if_pos a3]; simp only [Option.bind_some]; rw [decide_eq_false (by omega)]; rfl
            · rw [if_neg a3]; rfl
          · simp only [Option.bind_some, decide_eq_false a2]; rfl
        · rw [if_neg a1]; rfl
      · refine Ev.step (f := fun _ => some (vfL (e :: es) m (prevA l m))) (fun k => ?_) (Ev.now _)
        simp only [linkhouseref8_ProfileFault.j1, linkhouseref7_At.f, vfL]
        rw [if_pos trivial, if_pos hbad]; rfl
    · refine Ev.step (f := fun k => linkhouseref8_ProfileFault.j1 k l m false) (fun k => ?_) ?_
      · simp only [linkhouseref8_ProfileFault.l0, linkhouseref7_In.f]
        rw [if_pos (by omega), if_pos (by omega), hrd, if_pos (by omega)]
        simp only [Option.bind_some]
        rw [decide_eq_true (by omega), if_pos rfl, if_pos (by omega)]
        simp only [Option.bind_some]
        rw [decide_eq_true (by omega)]; rfl
      · have hnext := ih (m + 1) hd' (by omega)
        rw [prevA_succ l m e hrd] at hnext
        by_cases h0 : m = 0
        · subst h0
          refine Ev.step (f := fun k => linkhouseref8_ProfileFault.l0 k l ((0 + 1 : Nat) : Int)) (fun k => ?_) ?_
          · simp only [linkhouseref8_ProfileFault.j1]
            rw [if_neg (by simp), if_neg (by omega), hw]
          · simp only [vfL, prevA]
            rw [if_neg hbad]
            exact hnext
        · have hp : prevA l m = some (rd_T32 l ((m - 1 : Nat) : Int)).f0 := by unfold prevA; rw [if_neg h0]
          have hwm : wrap64 ((m : Int) - 1) = ((m - 1 : Nat) : Int) := by rw [wrap_id (by omega) (by omega)]; omega
          by_cases h5 : e.f0 ≤ (rd_T32 l ((m - 1 : Nat) : Int)).f0
          · refine Ev.step (f := fun _ => some (vfL (e :: es) m (prevA l m))) (fun k => ?_) (Ev.now _)
            simp only [linkhouseref8_ProfileFault.j1, linkhouseref7_At.f, vfL, hp]
            rw [if_neg (by simp), if_pos (by omega), if_pos (by omega), if_pos (by omega), hwm, if_pos (by omega), if_pos (by omega), hrd, if_pos h5, if_neg hbad, if_pos h5]; rfl
          · refine Ev.step (f := fun k => linkhouseref8_ProfileFault.l0 k l ((m + 1 : Nat) : Int)) (fun k => ?_) ?_
            · simp only [linkhouseref8_ProfileFault.j1]
              rw [if_neg (by simp), if_pos (by omega), if_pos (by omega), if_pos (by omega), hwm, if_pos (by omega), if_pos (by omega), hrd, if_neg h5, hw]
            · simp only [vfL, hp]
              rw [if_neg hbad, if_neg h5]
              exact hnext
theorem pfault_ev (l : List S32) : Ev (fun k => linkhouseref8_ProfileFault.f k l) (vf l) := by
  unfold vf
  by_cases h1 : (l.length : Int) > 200
  · refine Ev.congr (f := fun _ => some (2, -1)) (fun k => ?_) (by rw [if_pos h1]; exact Ev.now _)
    simp only [linkhouseref8_ProfileFault.f]
    rw [if_pos h1]; rfl
  · rw [if_neg h1]
    refine Ev.congr (f := fun k => linkhouseref8_ProfileFault.l0 k l ((0 : Nat) : Int)) (fun k => ?_) (pfault_l0 l (by omega) l 0 rfl (by omega))
    simp only [linkhouseref8_ProfileFault.f]
    rw [if_neg h1]
    rfl
/-- A profile without a fault. -/
structure GoodP (l : List S32) : Prop where
  len : l.length ≤ 200
  rng : ∀ x ∈ l, (0 ≤ x.f0 ∧ x.f0 ≤ 1048575) ∧ 1 ≤ x.f1 ∧ x.f1 ≤ 1000000
  ris : Ris l
theorem vfL_ok : ∀ (es : List S32) (i : Int) (p : Option Int), vfL es i p = (0, 0) ↔ (∀ x ∈ es, (0 ≤ x.f0 ∧ x.f0 ≤ 1048575) ∧ 1 ≤ x.f1 ∧ x.f1 ≤ 1000000) ∧ Ris es ∧ (∀ q, p = some q → ∀ x ∈ es, q < x.f0) := by
  intro es
  induction es with
  | nil => intro i p; simp [vfL, Ris]
  | cons e es ih =>
    intro i p
    have key : ∀ j, vfL es j (some e.f0) = (0, 0) ↔ (∀ x ∈ es, (0 ≤ x.f0 ∧ x.f0 ≤ 1048575) ∧ 1 ≤ x.f1 ∧ x.f1 ≤ 1000000) ∧ Ris es ∧ ∀ x ∈ es, e.f0 < x.f0 := by
      intro j
      rw [ih]
      constructor
      · rintro ⟨a, b, c⟩; exact ⟨a, b, c _ rfl⟩
      · rintro ⟨a, b, c⟩; exact ⟨a, b, fun q hq => by injection hq with hq; rw [← hq]; exact c⟩
    simp only [vfL]
    by_cases hbad : e.f0 < 0 ∨ e.f0 > 1048575 ∨ e.f1 < 1 ∨ e.f1 > 1000000
    · rw [if_pos hbad]
      constructor
      · intro h; simp at h
      · rintro ⟨a, _, _⟩; have := a e (by simp); omega
    · rw [if_neg hbad]
      have hres : (∀ x ∈ e :: es, (0 ≤ x.f0 ∧ x.f0 ≤ 1048575) ∧ 1 ≤ x.f1 ∧ x.f1 ≤ 1000000) ∧ Ris (e :: es) ↔ (∀ x ∈ es, (0 ≤ x.f0 ∧ x.f0 ≤ 1048575) ∧ 1 ≤ x.f1 ∧ x.f1 ≤ 1000000) ∧ Ris es ∧ ∀ x ∈ es, e.f0 < x.f0 := by
        unfold Ris
        rw [List.pairwise_cons]
        constructor
        · rintro ⟨a, b, c⟩; exact ⟨fun x hx => a x (List.mem_cons_of_mem _ hx), c, b⟩
        · rintro ⟨a, b, c⟩
          refine ⟨fun x hx => ?_, c, b⟩
          rcases List.mem_cons.1 hx with rfl | hx
          · omega
          · exact a x hx
      cases p with
      | none =>
        simp only []
        rw [key, ← hres]
        constructor
        · rintro ⟨a, b⟩; exact ⟨a, b, fun q hq => by cases hq⟩
        · rintro ⟨a, b, _⟩; exact ⟨a, b⟩
      | some q =>
        simp only []
        by_cases h5 : e.f0 ≤ q
        · rw [if_pos h5]
          constructor
          · intro h; simp at h
          · rintro ⟨_, _, c⟩; have := c q rfl e (by simp); omega
        · rw [if_neg h5, key, ← hres]
          constructor
          · rintro ⟨a, b⟩
            refine ⟨a, b, fun q' hq' x hx => ?_⟩
            injection hq' with hq'
            rcases List.mem_cons.1 hx with rfl | hx
            · omega
            · have := (hres.1 ⟨a, b⟩).2.2 x hx; omega
          · rintro ⟨a, b, _⟩; exact ⟨a, b⟩
theorem vfL_code : ∀ (es : List S32) (i : Int) (p : Option Int), (vfL es i p).1 = 0 → vfL es i p = (0, 0) := by
  intro es
  induction es with
  | nil => intro i p _; rfl
  | cons e es ih =>
    intro i p h
    simp only [vfL] at h ⊢
    by_cases hbad : e.f0 < 0 ∨ e.f0 > 1048575 ∨ e.f1 < 1 ∨ e.f1 > 1000000
    · rw [if_pos hbad] at h; simp at h
    · rw [if_neg hbad] at h ⊢
      cases p with
      | none => exact ih _ _ h
      | some q =>
        simp only [] at h ⊢
        by_cases h5 : e.f0 ≤ q
        · rw [if_pos h5] at h; simp at h
        · rw [if_neg h5] at h ⊢; exact ih _ _ h
theorem vf_code {l : List S32} (h : (vf l).1 = 0) : vf l = (0, 0) := by
  unfold vf at h ⊢
  split at h
  · simp at h
  · rw [if_neg ‹_›]; exact vfL_code _ _ _ h
theorem vf_good (l : List S32) : vf l = (0, 0) ↔ GoodP l := by
  unfold vf
  constructor
  · intro h
    split at h
    · simp at h
    · obtain ⟨a, b, _⟩ := (vfL_ok _ _ _).1 h
      exact ⟨by omega, a, b⟩
  · rintro ⟨a, b, c⟩
    rw [if_neg (by omega), vfL_ok]
    exact ⟨b, c, fun q hq => by cases hq⟩
theorem GoodP.srt {l : List S32} (h : GoodP l) : Srt l := ⟨fun x hx => by have := h.rng x hx; omega, h.ris⟩
theorem GoodP.cn {l : List S32} (h : GoodP l) : Cn l 1000000 := fun x hx => (h.rng x hx).2
theorem GoodP.inr {l : List S32} (h : GoodP l) : InR l := fun x hx => by have := h.rng x hx; omega
/-- What Merge comes to. -/
theorem nz_iff (p : Int × Int) : ((!(p.1 == 0) || (!(p.2 == 0))) = true) ↔ p ≠ (0, 0) := by
  obtain ⟨a, b⟩ := p
  simp only [Bool.or_eq_true, Bool.not_eq_true', beq_eq_false_iff_ne, ne_eq, Prod.mk.injEq]
  by_cases h : a = 0 <;> simp [h]
end Go.Proofs.Ytjchmckbhfoopaa.PP
