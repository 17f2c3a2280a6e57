/- CallsOf in plain Lean: how often a part continues with another. Conditions: those of each fact. -/
import Derived.Test.YtjchmckbhfoopaaPPpl1
namespace Go.Proofs.Ytjchmckbhfoopaa.PP
open Go.RowKit Go.Proofs.YtjchmckbhfoopaaW.PrintWords Go.Proofs.YtjchmckbhfoopaaW.PrintLast Go.Proofs.YtjchmckbhfoopaaW.PrintMore
set_option linter.unusedVariables false
set_option linter.unusedSimpArgs false
/-- The part of the event before index k on core c; -1 where there is none. -/
def lastP (ls : List S59) (E : List S30) (c : Int) : Nat → Int
  | 0 => -1
  | k + 1 => if (rd_T30 E (k : Int)).f0 = c ∧ 0 ≤ (rd_T30 E (k : Int)).f1 then idx (inPlace (rd_T30 E (k : Int)).f1) ls 0 else lastP ls E c k
/-- The event at m counts for (x, y). -/
def hit (ls : List S59) (E : List S30) (x y : Int) (m : Nat) : Bool := decide (0 ≤ (rd_T30 E (m : Int)).f1 ∧ idx (inPlace (rd_T30 E (m : Int)).f1) ls 0 = y ∧ (rd_T30 E (m : Int)).f1 = (rd_T59 ls y).f0 ∧ lastP ls E (rd_T30 E (m : Int)).f0 m = x)
def cntF (ls : List S59) (E : List S30) (x y : Int) : List S30 → Nat → Int
  | [], _ => 0
  | _ :: es, m => (if hit ls E x y m = true then 1 else 0) + cntF ls E x y es (m + 1)
theorem cntF_bd (ls : List S59) (E : List S30) (x y : Int) : ∀ (es : List S30) (m : Nat), 0 ≤ cntF ls E x y es m ∧ cntF ls E x y es m ≤ es.length
  | [], _ => by simp [cntF]
  | _ :: es, m => by
    have := cntF_bd ls E x y es (m + 1)
    simp only [cntF, List.length_cons]
    push_cast
    split <;> omega
def EvOk (E : List S30) : Prop := ∀ e ∈ E, -1 ≤ e.f1 ∧ e.f1 ≤ 1048575
theorem rdE (E : List S30) (j : Nat) (h : j < E.length) : rd_T30 E (j : Int) = E[j] := by simp [rd_T30, h]
theorem callsof_l1 (ls : List S59) (E : List S30) (x y : Int) (hx : 0 ≤ x) (hE : EvOk E) (hl : ls.length ≤ 100000) (hb : ∀ p ∈ ls, badPlace p = false) (hn : E.length ≤ 10000) (s : Int) (hs : 0 ≤ s ∧ s ≤ 20000) (m : Nat) (hm : m < E.length) (A B : Int)
    (hA : Ev (fun k => linkhouseref8_CallsOf.l0 k E ls x y (s + 1) ((m + 1 : Nat) : Int)) A) (hB : Ev (fun k => linkhouseref8_CallsOf.l0 k E ls x y s ((m + 1 : Nat) : Int)) B) :
    ∀ j : Nat, j ≤ m → Ev (fun k => linkhouseref8_CallsOf.l1 k E ls x y s m ((j : Int) - 1)) (if lastP ls E (rd_T30 E (m : Int)).f0 j = x then A else B) := by
  have hw : wrap64 ((m : Int) + 1) = ((m + 1 : Nat) : Int) := by rw [wrap_id (by omega) (by omega)]; rfl
  intro j
  induction j with
  | zero =>
    intro _
    rw [if_neg (by simp only [lastP]; omega)]
    refine Ev.step (f := fun k => linkhouseref8_CallsOf.l0 k E ls x y s ((m + 1 : Nat) : Int)) (fun k => ?_) hB
    simp only [linkhouseref8_CallsOf.l1]
    rw [if_neg (by omega), hw]
  | succ j ih =>
    intro hj
    have e1 : ((j + 1 : Nat) : Int) - 1 = (j : Int) := by omega
    have hwj : wrap64 ((j : Int) - 1) = (j : Int) - 1 := wrap_id (by omega) (by omega)
    have hws : wrap64 (s + 1) = s + 1 := wrap_id (by omega) (by omega)
    have ih' := ih (by omega)
    rw [e1]
    have hno : Ev (fun k => linkhouseref8_CallsOf.j3 k E ls x y s m j false) (if lastP ls E (rd_T30 E (m : Int)).f0 j = x then A else B) := by
      refine Ev.step (f := fun k => linkhouseref8_CallsOf.l1 k E ls x y s m ((j : Int) - 1)) (fun k => ?_) ih'
      simp only [linkhouseref8_CallsOf.j3, Bool.false_eq_true, if_false]
      rw [hwj]
    by_cases hc : (rd_T30 E (j : Int)).f0 = (rd_T30 E (m : Int)).f0
    · by_cases hp : 0 ≤ (rd_T30 E (j : Int)).f1
      · have hbd : (rd_T30 E (j : Int)).f1 ≤ 1048575 := by rw [rdE E j (by omega)]; exact (hE _ (List.getElem_mem _)).2
        have hlast : lastP ls E (rd_T30 E (m : Int)).f0 (j + 1) = idx (inPlace (rd_T30 E (j : Int)).f1) ls 0 := by simp only [lastP]; rw [if_pos ⟨hc, hp⟩]
        rw [hlast]
        refine Ev.step (f := fun k => linkhouseref8_CallsOf.j3 k E ls x y s m j true) (fun k => ?_) ?_
        · simp only [linkhouseref8_CallsOf.l1]
          rw [if_pos (by omega), if_pos (by omega), if_pos (by omega), if_pos (by omega), if_pos (by omega), if_pos hc, decide_eq_true (by omega)]
        · refine Ev.step (f := fun k => (linkhouseref8_PartOf.f k ls ((rd_T30 E (j : Int)).f1)).bind fun t184 => (if t184 = x then (linkhouseref8_CallsOf.l0 k E ls x y (s + 1) ((m + 1 : Nat) : Int)) else (linkhouseref8_CallsOf.l0 k E ls x y s ((m + 1 : Nat) : Int)))) (fun k => ?_) ?_
          · simp only [linkhouseref8_CallsOf.j3, if_true]
            rw [if_pos (by omega), if_pos (by omega), hws, hw]
          · refine Ev.bind (partof_ev ls _ hl ⟨hp, by omega⟩ hb) ?_
            by_cases hq : idx (inPlace (rd_T30 E (j : Int)).f1) ls 0 = x
            · simp only [if_pos hq]; exact hA
            · simp only [if_neg hq]; exact hB
      · have hlast : lastP ls E (rd_T30 E (m : Int)).f0 (j + 1) = lastP ls E (rd_T30 E (m : Int)).f0 j := by simp only [lastP]; rw [if_neg (fun h => hp h.2)]
        rw [hlast]
        refine Ev.step (f := fun k => linkhouseref8_CallsOf.j3 k E ls x y s m j false) (fun k => ?_) hno
        simp only [linkhouseref8_CallsOf.l1]
        rw [if_pos (by omega), if_pos (by omega), if_pos (by omega), if_pos (by omega), if_pos (by omega), if_pos hc, decide_eq_false (by omega)]
    · have hlast : lastP ls E (rd_T30 E (m : Int)).f0 (j + 1) = lastP ls E (rd_T30 E (m : Int)).f0 j := by simp only [lastP]; rw [if_neg (fun h => hc h.1)]
      rw [hlast]
      refine Ev.step (f := fun k => linkhouseref8_CallsOf.j3 k E ls x y s m j false) (fun k => ?_) hno
      simp only [linkhouseref8_CallsOf.l1]
      rw [if_pos (by omega), if_pos (by omega), if_pos (by omega), if_pos (by omega), if_pos (by omega), if_neg hc]
theorem callsof_l0 (ls : List S59) (E : List S30) (x y : Int) (hx : 0 ≤ x) (hy : 0 ≤ y ∧ y < ls.length) (hE : EvOk E) (hl : ls.length ≤ 100000) (hb : ∀ p ∈ ls, badPlace p = false) (hn : E.length ≤ 10000) :
    ∀ (es : List S30) (m : Nat) (s : Int), E.drop m = es → m ≤ E.length → 0 ≤ s → s ≤ m → Ev (fun k => linkhouseref8_CallsOf.l0 k E ls x y s m) (s + cntF ls E x y es m) := by
  intro es
  induction es with
  | nil =>
    intro m s hd hm hs hsm
    have hml := drop_nil_le hd
    refine Ev.step (f := fun _ => some s) (fun k => ?_) (by simpa [cntF] using Ev.now s)
    simp only [linkhouseref8_CallsOf.l0]
    rw [if_neg (by omega)]
  | cons e es ih =>
    intro m s hd hm hs hsm
    obtain ⟨hrd, hml, hd'⟩ := rd30 E m e es hd
    have hw : wrap64 ((m : Int) + 1) = ((m + 1 : Nat) : Int) := by rw [wrap_id (by omega) (by omega)]; rfl
    have hw1 : wrap64 ((m : Int) - 1) = (m : Int) - 1 := wrap_id (by omega) (by omega)
    have hB := ih (m + 1) s hd' (by omega) hs (by omega)
    have hA := ih (m + 1) (s + 1) hd' (by omega) (by omega) (by omega)
    have hskip : hit ls E x y m = false → Ev (fun k => linkhouseref8_CallsOf.j1 k E ls x y s m true) (s + cntF ls E x y (e :: es) m) := by
      intro hh
      simp only [cntF]
      rw [hh]
      simp only [Bool.false_eq_true, if_false, Int.zero_add]
      refine Ev.step (f := fun k => linkhouseref8_CallsOf.l0 k E ls x y s ((m + 1 : Nat) : Int)) (fun k => ?_) hB
      simp only [linkhouseref8_CallsOf.j1, if_true]
      rw [hw]
    have heb : -1 ≤ e.f1 ∧ e.f1 ≤ 1048575 := hE e (by rw [← hrd, rdE E m hml]; exact List.getElem_mem hml)
    by_cases h1 : e.f1 < 0
    · refine Ev.step (f := fun k => linkhouseref8_CallsOf.j1 k E ls x y s m true) (fun k => ?_) (hskip (by simp only [hit, hrd]; simp; omega))
      simp only [linkhouseref8_CallsOf.l0]
      rw [if_pos (by omega), if_pos (by omega), hrd, if_pos h1]
    · refine Ev.step (f := fun k => (linkhouseref8_PartOf.f k ls e.f1).bind fun t177 => (if t177 = y then (linkhouseref8_CallsOf.j1 k E ls x y s m (e.f1 != (rd_T59 ls y).f0)) else (linkhouseref8_CallsOf.j1 k E ls x y s m true))) (fun k => ?_) ?_
      · simp only [linkhouseref8_CallsOf.l0]
        rw [if_pos (by omega), if_pos (by omega), hrd, if_neg h1, if_pos hy.1, if_pos hy.2]
      · refine Ev.bind (partof_ev ls e.f1 hl ⟨by omega, by omega⟩ hb) ?_
        by_cases h2 : idx (inPlace e.f1) ls 0 = y
        · simp only [if_pos h2]
          by_cases h3 : e.f1 = (rd_T59 ls y).f0
          · rw [show (e.f1 != (rd_T59 ls y).f0) = false from by simp [h3]]
            have hh : hit ls E x y m = decide (lastP ls E e.f0 m = x) := by
              simp only [hit, hrd]
              rw [decide_eq_decide]
              exact ⟨fun h => h.2.2.2, fun h => ⟨by omega, h2, h3, h⟩⟩
            refine Ev.step (f := fun k => linkhouseref8_CallsOf.l1 k E ls x y s m ((m : Int) - 1)) (fun k => ?_) ?_
            · simp only [linkhouseref8_CallsOf.j1, Bool.false_eq_true, if_false]
              rw [hw1]
            · have := callsof_l1 ls E x y hx hE hl hb hn s ⟨hs, by omega⟩ m hml _ _ hA hB m (Nat.le_refl _)
              rw [hrd] at this
              simp only [cntF]
              rw [hh]
              by_cases h4 : lastP ls E e.f0 m = x
              · rw [if_pos h4] at this
                rw [decide_eq_true h4]
                simpa [Int.add_assoc] using this
              · rw [if_neg h4] at this
                rw [decide_eq_false h4]
                simpa using this
          · rw [show (e.f1 != (rd_T59 ls y).f0) = true from by simpa using h3]
            exact hskip (by simp only [hit, hrd]; rw [decide_eq_false_iff_not]; exact fun h => h3 h.2.2.1)
        · simp only [if_neg h2]
          exact hskip (by simp only [hit, hrd]; rw [decide_eq_false_iff_not]; exact fun h => h2 h.2.1)
theorem callsof_ev (ls : List S59) (E : List S30) (x y : Int) (hx : 0 ≤ x) (hy : 0 ≤ y ∧ y < ls.length) (hE : EvOk E) (hl : ls.length ≤ 100000) (hb : ∀ p ∈ ls, badPlace p = false) (hn : E.length ≤ 10000) :
    Ev (fun k => linkhouseref8_CallsOf.f k E ls x y) (cntF ls E x y E 0) := by
  have := callsof_l0 ls E x y hx hy hE hl hb hn E 0 0 rfl (Nat.zero_le _) (Int.le_refl _) (Int.le_refl _)
  rw [Int.zero_add] at this
  exact this
end Go.Proofs.Ytjchmckbhfoopaa.PP
