/- For all lists of samples: the sum of two profiles does not depend on their order, nor that of three on how they are taken together: the plain law, over lists and numbers. Conditions: none beyond the length of a slice in memory. -/
import Derived.Test.YtjchmckbhfoopaaPSx14
import Derived.Test.YtjchmckbhfoopaaPSmerge
namespace Go.Proofs.Ytjchmckbhfoopaa.Pure
set_option linter.unusedVariables false
set_option linter.unusedSimpArgs false
open Go.RowKit Go.Proofs.Ytjchmckbhfoopaa.PS Go.Proofs.YtjchmckbhfoopaaW.PrintWords Go.Proofs.YtjchmckbhfoopaaW.PrintLast Go.Proofs.YtjchmckbhfoopaaW.PrintMore
theorem mergeS_ok {a b : List S32} (h : (mergeS a b).2.1 = 0) : GoodP a ∧ GoodP b ∧ GoodP (mergeL a b) ∧ mergeS a b = (mergeL a b, 0, 0) := by
  unfold mergeS at h ⊢
  split at h
  · rename_i h1; exact absurd (vf_code h) h1
  · rename_i h1
    split at h
    · rename_i h2; exact absurd (vf_code h) h2
    · rename_i h2
      split at h
      · simp at h
      · rename_i h3
        rw [if_neg h1, if_neg h2, if_neg h3]
        exact ⟨(vf_good a).1 (by simpa using h1), (vf_good b).1 (by simpa using h2), (vf_good _).1 (by simpa using h3), rfl⟩
theorem mergeS_good {a b : List S32} (ha : GoodP a) (hb : GoodP b) (hm : GoodP (mergeL a b)) : mergeS a b = (mergeL a b, 0, 0) := by
  unfold mergeS
  rw [if_neg (by simp [(vf_good a).2 ha]), if_neg (by simp [(vf_good b).2 hb]), if_neg (by simp [(vf_good _).2 hm])]
theorem mergeS_nil {a b : List S32} (h : (mergeS a b).2.1 ≠ 0) : (mergeS a b).1 = [] := by
  unfold mergeS at h ⊢
  split
  · rfl
  · split
    · rfl
    · split
      · rfl
      · rw [if_neg ‹_›, if_neg ‹_›, if_neg ‹_›] at h; simp at h
theorem merge_facts2 {a b : List S32} (ha : GoodP a) (hb : GoodP b) : Ris (mergeL a b) ∧ (∀ x, cntOf (mergeL a b) x = cntOf a x + cntOf b x) ∧ (∀ x, hasA (mergeL a b) x ↔ hasA a x ∨ hasA b x) := by
  have h1 := ha.len
  have h2 := hb.len
  obtain ⟨p1, p2, p3, p4, p5⟩ := mergeL_facts 1000000 (by omega) b a 1000000 ha.srt ha.cn hb.inr hb.cn (by omega) (by omega)
  exact ⟨p1.2, p3, p4⟩
theorem merge_comm {a b : List S32} (ha : GoodP a) (hb : GoodP b) : mergeL a b = mergeL b a := by
  obtain ⟨p1, p2, p3⟩ := merge_facts2 ha hb
  obtain ⟨q1, q2, q3⟩ := merge_facts2 hb ha
  exact ris_ext _ _ p1 q1 (fun x => by rw [p3, q3, or_comm]) (fun x => by rw [p2, q2, Int.add_comm])
theorem merge_assoc {a b c : List S32} (ha : GoodP a) (hb : GoodP b) (hc : GoodP c) (hab : GoodP (mergeL a b)) (hbc : GoodP (mergeL b c)) : mergeL (mergeL a b) c = mergeL a (mergeL b c) := by
  obtain ⟨p1, p2, p3⟩ := merge_facts2 ha hb
  obtain ⟨q1, q2, q3⟩ := merge_facts2 hb hc
  obtain ⟨r1, r2, r3⟩ := merge_facts2 hab hc
  obtain ⟨s1, s2, s3⟩ := merge_facts2 ha hbc
  exact ris_ext _ _ r1 s1 (fun x => by rw [r3, s3, p3, q3, or_assoc]) (fun x => by rw [r2, s2, p2, q2, Int.add_assoc])
theorem code_sym (a b : List S32) : (mergeS a b).2.1 = 0 → (mergeS b a).2.1 = 0 := by
  intro h
  obtain ⟨ha, hb, hm, _⟩ := mergeS_ok h
  rw [mergeS_good hb ha (by rw [← merge_comm ha hb]; exact hm)]
theorem fin_ev : Ev (fun k => (linkhouselaw8_sampled.f k).bind fun t => (some t)) true := Ev.bind sampled_ev (Ev.now _)
theorem same_fin (l : List S32) (hl : l.length ≤ 9000000000000000000) : Ev (fun k => (linkhouseref8_SameProfile.f k l l).bind fun t340 => (if t340 = true then ((linkhouselaw8_sampled.f k).bind fun t341 => (some t341)) else (some false))) true := by
  refine Ev.bind (same_ev l hl) ?_
  simp only [if_true]
  exact fin_ev
theorem SamplingMergeIsSymmetric (l0 : List S32) (h0 : l0.length ≤ 9223372036854775807) (l1 : List S32) (h1 : l1.length ≤ 9223372036854775807) (l2 : List S32) (h2 : l2.length ≤ 9223372036854775807) : ∃ k, linkhouselaw8_SamplingMergeIsSymmetric.f k l0 l1 l2 = some true := by
  refine Ev.rounds (g := fun k => linkhouselaw8_SamplingMergeIsSymmetric.f k l0 l1 l2) ?_
  unfold linkhouselaw8_SamplingMergeIsSymmetric.f
  refine Ev.bind (merge_ev l0 l1) ?_
  refine Ev.bind (merge_ev l1 l0) ?_
  by_cases hx : (mergeS l0 l1).2.1 = 0
  · have hy := code_sym _ _ hx
    obtain ⟨ga, gb, gm, ex⟩ := mergeS_ok hx
    obtain ⟨_, _, _, ey⟩ := mergeS_ok hy
    have hxy := merge_comm ga gb
    simp only [ex, ey, if_true]
    rw [← hxy]
    have hml := gm.len
    refine Ev.step (f := fun k => (sampling_Merge.f k (mergeL l0 l1) l2).bind fun bt320 => ((sampling_Merge.f k l1 l2).bind fun bt326 => (linkhouselaw8_SamplingMergeIsSymmetric.j1 k l0 l1 l2 (mergeL l0 l1) (mergeL l0 l1) bt320.1 bt326.1 bt320.2.1 bt320.2.2))) (fun k => ?_) ?_
    · simp only [linkhouselaw8_SamplingMergeIsSymmetric.j0]
      rw [if_neg (by simp)]
    refine Ev.bind (merge_ev _ l2) ?_
    refine Ev.bind (merge_ev l1 l2) ?_
    refine Ev.step (f := fun k => _) (fun k => by simp only [linkhouselaw8_SamplingMergeIsSymmetric.j1]; rfl) ?_
    refine Ev.bind (merge_ev l0 _) ?_
    refine Ev.bind (same_ev _ (by omega)) ?_
    simp only [if_true]
    by_cases hp : (mergeS (mergeL l0 l1) l2).2.1 = 0
    · simp only [if_pos hp]
      obtain ⟨_, gc, gp, ep⟩ := mergeS_ok hp
      by_cases hq : (mergeS l0 (mergeS l1 l2).1).2.1 = 0
      · simp only [if_pos hq]
        obtain ⟨_, gz, gq, eq⟩ := mergeS_ok hq
        have hpl := gp.len
        have hbl := gb.len
        have hcl := gc.len
        by_cases hz : ((mergeS l1 l2).1.length : Int) = 0
        · simp only [if_pos hz]
          rw [wrap_id (by omega) (by omega)]
          by_cases hbc : (l1.length : Int) + l2.length > 0
          · simp only [if_pos hbc]; exact fin_ev
          · simp only [if_neg hbc]
            have e1 : l1 = [] := List.eq_nil_of_length_eq_zero (by omega)
            have e2 : l2 = [] := List.eq_nil_of_length_eq_zero (by omega)
            have e3 : (mergeS l1 l2).1 = [] := List.eq_nil_of_length_eq_zero (by omega)
            rw [ep, eq, e3, e1, e2]
            exact same_fin _ (by have := ga.len; simp only [mergeL_nil]; omega)
        · simp only [if_neg hz]
          have hz0 : (mergeS l1 l2).2.1 = 0 := by
            rcases Decidable.em ((mergeS l1 l2).2.1 = 0) with h | h
            · exact h
            · rw [mergeS_nil h] at hz; simp at hz
          obtain ⟨_, _, gbc, ez⟩ := mergeS_ok hz0
          rw [ep, eq, ez]
          simp only []
          rw [merge_assoc ga gb gc gm gbc]
          rw [ez] at gq
          exact same_fin _ (by have := gq.len; simp only [] at this; omega)
      · simp only [if_neg hq]; exact fin_ev
    · simp only [if_neg hp]; exact fin_ev
  · have hy : ¬ (mergeS l1 l0).2.1 = 0 := fun h => hx (code_sym _ _ h)
    simp only [if_neg hx]
    refine Ev.step (f := fun k => (linkhouselaw8_sampled.f k).bind fun t319 => (some t319)) (fun k => ?_) fin_ev
    simp only [linkhouselaw8_SamplingMergeIsSymmetric.j0]
    have b1 : ((mergeS l0 l1).2.1 != 0) = true := by simpa using hx
    have b2 : ((mergeS l1 l0).2.1 != 0) = true := by simpa using hy
    rw [if_pos trivial, b1, b2, if_pos (by rfl)]
end Go.Proofs.Ytjchmckbhfoopaa.Pure
