/- For every list of events and every distance, the counts of a profile that Take returns without a fault add up to the executed instructions divided by the distance, rounded down: the plain law, over lists and numbers. Conditions: none beyond the length of a slice in memory. -/
import Derived.Test.YtjchmckbhfoopaaPSx4
import Derived.Test.YtjchmckbhfoopaaPStake
namespace Go.Proofs.Ytjchmckbhfoopaa.Pure
set_option linter.unusedVariables false
set_option linter.unusedSimpArgs false
open Go.RowKit Go.Proofs.Ytjchmckbhfoopaa.PS Go.Proofs.YtjchmckbhfoopaaW.PrintWords Go.Proofs.YtjchmckbhfoopaaW.PrintLast Go.Proofs.YtjchmckbhfoopaaW.PrintMore
theorem sumC_nonneg {l : List S32} {N : Int} (h : Cn l N) : 0 ≤ sumC l := by
  induction l with
  | nil => simp [sumC]
  | cons x xs ih =>
    have h1 := h x (by simp)
    have h2 := ih (fun y hy => h y (List.mem_cons_of_mem _ hy))
    simp only [sumC]; omega
theorem l1_ev (every : Int) (he : 1 ≤ every) (r : List S32) (N n : Int) (hc : Cn r N) (h0 : 0 ≤ n) (hn : n ≤ 10000) (hr : r.length ≤ 200) : ∀ (es : List S32) (m : Nat) (s : Int), r.drop m = es → m ≤ r.length → 0 ≤ s → s + sumC es = n / every → s + sumC es ≤ 10000 →
    Ev (fun k => linkhouselaw8_SamplingCountsEvents.l1 k every r n s m) true := by
  intro es
  induction es with
  | nil =>
    intro m s hd hm hs he1 hb
    have hml : r.length ≤ m := by
      rcases Nat.lt_or_ge m r.length with h | h
      · rw [List.drop_eq_getElem_cons h] at hd; cases hd
      · exact h
    refine Ev.step (f := fun k => (linkhouselaw8_sampled.f k).bind fun t133 => (some t133)) (fun k => ?_) (Ev.bind sampled_ev (Ev.now _))
    simp only [linkhouselaw8_SamplingCountsEvents.l1]
    simp only [sumC] at he1 hb
    rw [if_neg (by omega), if_neg (by omega), if_pos (by rw [Int.tdiv_eq_ediv_of_nonneg h0, wrap_id (by omega) (by omega)]; omega)]
  | cons e es ih =>
    intro m s hd hm hs he1 hb
    obtain ⟨hrd, hml, hd'⟩ := rd32 r m e es hd
    have hx := hc e (by rw [show e = r[m] from by rw [← hrd]; simp [rd_T32, hml]]; exact List.getElem_mem hml)
    have hces : Cn es N := fun y hy => hc y (by rw [← hd'] at hy; exact List.mem_of_mem_drop hy)
    have hns := sumC_nonneg hces
    simp only [sumC] at he1 hb
    refine Ev.step (f := fun k => linkhouselaw8_SamplingCountsEvents.l1 k every r n (s + e.f1) ((m + 1 : Nat) : Int)) (fun k => ?_) (ih (m + 1) (s + e.f1) hd' (by omega) (by omega) (by omega) (by omega))
    simp only [linkhouselaw8_SamplingCountsEvents.l1]
    rw [if_pos (by omega), if_pos (by omega), hrd, wrap_id (by omega) (by omega), wrap_id (by omega) (by omega)]
    rfl
theorem l0_ev (every : Int) (he : 1 ≤ every) (l : List S30) (hl : l.length ≤ 10000) (ha : ∀ e ∈ l, -1 ≤ e.f1 ∧ e.f1 < 1048576) (r : List S32) (N T : Int) (hc : Cn r N) (hr : r.length ≤ 200) (hs : sumC r = T / every) (hT : T ≤ 10000) : ∀ (es : List S30) (m : Nat) (n : Int), l.drop m = es → m ≤ l.length → 0 ≤ n → n + cntE es = T →
    Ev (fun k => linkhouselaw8_SamplingCountsEvents.l0 k l every r n m) true := by
  intro es
  induction es with
  | nil =>
    intro m n hd hm h0 hn
    have hml : l.length ≤ m := by
      rcases Nat.lt_or_ge m l.length with h | h
      · rw [List.drop_eq_getElem_cons h] at hd; cases hd
      · exact h
    simp only [cntE] at hn
    have hb : T / every ≤ 10000 := Int.ediv_le_of_le_mul (by omega) (by have : T * 1 ≤ 10000 * every := by omega
                                                                        omega)
    refine Ev.step (f := fun k => linkhouselaw8_SamplingCountsEvents.l1 k every r n 0 ((0 : Nat) : Int)) (fun k => ?_) (l1_ev every he r N n hc h0 (by omega) hr r 0 0 rfl (by omega) (by omega) (by rw [hs]; simp; congr 1; omega) (by rw [hs]; omega))
    simp only [linkhouselaw8_SamplingCountsEvents.l0]
    rw [if_neg (by omega)]
    rfl
  | cons e es ih =>
    intro m n hd hm h0 hn
    obtain ⟨hrd, hml, hd'⟩ := rd30 l m e es hd
    have hx := ha e (by rw [show e = l[m] from by rw [← hrd]; simp [rd_T30, hml]]; exact List.getElem_mem hml)
    have hb := cntE_bd es
    simp only [cntE] at hn
    by_cases h1 : e.f1 = -1
    · rw [if_pos h1] at hn
      refine Ev.step (f := fun k => linkhouselaw8_SamplingCountsEvents.l0 k l every r n ((m + 1 : Nat) : Int)) (fun k => ?_) (ih (m + 1) n hd' (by omega) h0 hn)
      simp only [linkhouselaw8_SamplingCountsEvents.l0]
      rw [if_pos (by omega), if_pos (by omega), hrd, if_neg (by omega), wrap_id (by omega) (by omega)]
      rfl
    · rw [if_neg h1] at hn
      refine Ev.step (f := fun k => linkhouselaw8_SamplingCountsEvents.l0 k l every r (n + 1) ((m + 1 : Nat) : Int)) (fun k => ?_) (ih (m + 1) (n + 1) hd' (by omega) (by omega) (by omega))
      simp only [linkhouselaw8_SamplingCountsEvents.l0]
      rw [if_pos (by omega), if_pos (by omega), hrd, if_pos (by omega), wrap_id (by omega) (by omega), wrap_id (by omega) (by omega)]
      rfl
theorem SamplingCountsEvents (l0 : List S30) (h0 : l0.length ≤ 9223372036854775807) (a1 : Int) : ∃ k, linkhouselaw8_SamplingCountsEvents.f k l0 a1 = some true := by
  refine Ev.rounds (g := fun k => linkhouselaw8_SamplingCountsEvents.f k l0 a1) ?_
  unfold linkhouselaw8_SamplingCountsEvents.f
  refine Ev.bind (take_ev l0 a1) ?_
  by_cases h : (takeS l0 a1).2.1 = 0
  · obtain ⟨r, hr, hl, he, _, ha, hs, _, hc, hrl⟩ := takeS_ok h
    have hb := cntE_bd l0
    simp only [if_pos h, hr]
    exact l0_ev a1 he l0 hl ha r _ _ hc hrl hs (by omega) l0 0 0 rfl (by omega) (by omega) (by omega)
  · simp only [if_neg h]
    exact Ev.bind sampled_ev (Ev.now _)
end Go.Proofs.Ytjchmckbhfoopaa.Pure
