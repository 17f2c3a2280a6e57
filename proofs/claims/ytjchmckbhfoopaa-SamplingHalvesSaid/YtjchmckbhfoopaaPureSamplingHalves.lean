/- For every list of events and every place in it: if Take at distance 1 succeeds, so does it at both parts, and Merge adds their profiles up to the whole's: the plain law, over lists and numbers. Conditions: none beyond the length of a slice in memory. -/
import Derived.Test.YtjchmckbhfoopaaPSx13
import Derived.Test.YtjchmckbhfoopaaPSmerge
namespace Go.Proofs.Ytjchmckbhfoopaa.Pure
set_option linter.unusedVariables false
set_option linter.unusedSimpArgs false
open Go.RowKit Go.Proofs.Ytjchmckbhfoopaa.PS Go.Proofs.YtjchmckbhfoopaaW.PrintWords Go.Proofs.YtjchmckbhfoopaaW.PrintLast Go.Proofs.YtjchmckbhfoopaaW.PrintMore
theorem takeS_one {l : List S30} (hl : l.length ≤ 10000) (h : ∀ e ∈ l, -1 ≤ e.f1 ∧ e.f1 < 1048576) : takeS l 1 = endS (mergeL [] (smp 1 l 0)) := by
  unfold takeS
  rw [if_neg (by omega), if_neg (by omega), takeL_eq 1 l 0 [] 0 h]
theorem halves_j1 (r a b : List S32) (hm : mergeS a b = (r, 0, 0)) (hr : r.length ≤ 200) : Ev (fun k => linkhouselaw8_SamplingHalves.j1 k r a b false) true := by
  refine Ev.step (f := fun k => (sampling_Merge.f k a b).bind fun bt299 => (if bt299.2.1 = 0 then ((linkhouseref8_SameProfile.f k r bt299.1).bind fun t305 => (if t305 = true then ((linkhouselaw8_sampled.f k).bind fun t306 => (some t306)) else (some false))) else (some false))) (fun k => ?_) ?_
  · simp only [linkhouselaw8_SamplingHalves.j1]
    rw [if_neg (by simp)]
  · refine Ev.bind (merge_ev a b) ?_
    simp only [hm, if_true]
    refine Ev.bind (same_ev r (by omega)) ?_
    simp only [if_true]
    exact Ev.bind sampled_ev (Ev.now _)
theorem SamplingHalves (l0 : List S30) (h0 : l0.length ≤ 9223372036854775807) (a1 : Int) : ∃ k, linkhouselaw8_SamplingHalves.f k l0 a1 = some true := by
  refine Ev.rounds (g := fun k => linkhouselaw8_SamplingHalves.f k l0 a1) ?_
  have hsam : ∀ x5, Ev (fun k => linkhouselaw8_SamplingHalves.j0 k l0 a1 x5 true) true := fun x5 => by
    refine Ev.step (f := fun k => (linkhouselaw8_sampled.f k).bind fun t278 => (some t278)) (fun k => ?_) (Ev.bind sampled_ev (Ev.now _))
    simp only [linkhouselaw8_SamplingHalves.j0]
    rw [if_pos trivial]
  unfold linkhouselaw8_SamplingHalves.f
  refine Ev.bind (take_ev l0 1) ?_
  by_cases h : (takeS l0 1).2.1 = 0
  · obtain ⟨r, hr, hl, _, _, ha, _, hs, _, hrl⟩ := takeS_ok h
    simp only [if_pos h, hr, if_true]
    by_cases hk : 0 ≤ a1 ∧ a1 ≤ (l0.length : Int)
    · have hin : linkhouseref7_In.f a1 0 (l0.length : Int) = some true := by unfold linkhouseref7_In.f; rw [if_pos hk.1, decide_eq_true hk.2]
      simp only [hin, Option.bind_some, Bool.not_true]
      obtain ⟨m, rfl⟩ := Int.eq_ofNat_of_zero_le hk.1
      have hm : m ≤ l0.length := by omega
      have e1 : ∀ e ∈ l0.take m, -1 ≤ e.f1 ∧ e.f1 < 1048576 := fun e he => ha e (List.mem_of_mem_take he)
      have e2 : ∀ e ∈ l0.drop m, -1 ≤ e.f1 ∧ e.f1 < 1048576 := fun e he => ha e (List.mem_of_mem_drop he)
      have n1 : (l0.take m).length ≤ 10000 := by rw [List.length_take]; omega
      have n2 : (l0.drop m).length ≤ 10000 := by rw [List.length_drop]; omega
      obtain ⟨A1, A2, A3, A4, A5⟩ := smp_facts 1 0 e1 n1
      obtain ⟨B1, B2, B3, B4, B5⟩ := smp_facts 1 0 e2 n2
      obtain ⟨C1, C2, C3, C4, C5⟩ := smp_facts 1 0 ha hl
      have hw := takeS_one hl ha
      have hrr : r = mergeL [] (smp 1 l0 0) := by
        rw [hr] at hw
        unfold endS at hw
        split at hw
        · simp at hw
        · injection hw
      have hsplit : smp 1 l0 0 = smp 1 (l0.take m) 0 ++ smp 1 (l0.drop m) 0 := by
        have := smp_append 1 (l0.take m) (l0.drop m) 0
        rw [List.take_append_drop] at this
        rw [this, smp_one (l0.drop m) (0 + cntE (l0.take m)) 0]
      obtain ⟨a, hA⟩ : ∃ a, a = mergeL [] (smp 1 (l0.take m) 0) := ⟨_, rfl⟩
      obtain ⟨b, hB⟩ : ∃ b, b = mergeL [] (smp 1 (l0.drop m) 0) := ⟨_, rfl⟩
      rw [← hA] at A1 A2 A3 A4 A5
      rw [← hB] at B1 B2 B3 B4 B5
      rw [← hrr] at C1 C2 C3 C4 C5
      have ha200 : a.length ≤ 200 := Nat.le_trans (ris_len r a A1.2 C1.2 (fun x hx => by rw [C4, hsplit, hasA_append]; exact .inl ((A4 x).1 hx))) hrl
      have hb200 : b.length ≤ 200 := Nat.le_trans (ris_len r b B1.2 C1.2 (fun x hx => by rw [C4, hsplit, hasA_append]; exact .inr ((B4 x).1 hx))) hrl
      have ga : GoodP a := ⟨ha200, fun x hx => ⟨A5 x hx, by have := A2 x hx; omega⟩, A1.2⟩
      have gb : GoodP b := ⟨hb200, fun x hx => ⟨B5 x hx, by have := B2 x hx; omega⟩, B1.2⟩
      have gr : GoodP r := ⟨hrl, fun x hx => ⟨C5 x hx, by have := C2 x hx; omega⟩, C1.2⟩
      obtain ⟨D1, D2, D3, D4, D5⟩ := mergeL_facts 1000000 (by omega) b a 1000000 A1 ga.cn gb.inr gb.cn (by omega) (by omega)
      have hab : mergeL a b = r := ris_ext _ _ D1.2 C1.2 (fun x => by rw [D4, A4, B4, C4, hsplit, hasA_append]) (fun x => by rw [D3, A3, B3, C3, hsplit, cntOf_append])
      have hmS : mergeS a b = (r, 0, 0) := by
        unfold mergeS
        rw [if_neg (by simp [(vf_good a).2 ga]), if_neg (by simp [(vf_good b).2 gb]), hab, if_neg (by simp [(vf_good r).2 gr])]
      have ta : takeS (l0.take m) 1 = (a, 0, 0) := by rw [takeS_one n1 e1, ← hA]; unfold endS; rw [if_neg (by omega)]
      have tb : takeS (l0.drop m) 1 = (b, 0, 0) := by rw [takeS_one n2 e2, ← hB]; unfold endS; rw [if_neg (by omega)]
      refine Ev.step (f := fun k => (sampling_Take.f k (l0.take m) 1).bind fun bt283 => ((sampling_Take.f k (l0.drop m) 1).bind fun bt293 => (if bt283.2.1 = 0 then (linkhouselaw8_SamplingHalves.j1 k r bt283.1 bt293.1 (bt293.2.1 != 0)) else (linkhouselaw8_SamplingHalves.j1 k r bt283.1 bt293.1 true)))) (fun k => ?_) ?_
      · simp only [linkhouselaw8_SamplingHalves.j0]
        rw [if_neg (by simp), if_pos (by omega), if_pos (by omega)]
        rfl
      · refine Ev.bind (take_ev _ 1) ?_
        refine Ev.bind (take_ev _ 1) ?_
        simp only [ta, tb, if_true]
        exact halves_j1 r a b hmS hrl
    · have hin : linkhouseref7_In.f a1 0 (l0.length : Int) = some false := by
        unfold linkhouseref7_In.f
        by_cases h1 : 0 ≤ a1
        · rw [if_pos h1, decide_eq_false (fun h2 => hk ⟨h1, h2⟩)]
        · rw [if_neg h1]
      simp only [hin, Option.bind_some, Bool.not_false]
      exact hsam r
  · simp only [if_neg h]
    exact hsam _
end Go.Proofs.Ytjchmckbhfoopaa.Pure
