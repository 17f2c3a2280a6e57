/- For all events and profiles: Take, Validate and Merge return what the reference says: the plain law, over lists and numbers. Conditions: none beyond the length of a slice in memory. -/
import Derived.Test.YtjchmckbhfoopaaPSx12
import Derived.Test.YtjchmckbhfoopaaPSprof
namespace Go.Proofs.Ytjchmckbhfoopaa.Pure
set_option linter.unusedVariables false
set_option linter.unusedSimpArgs false
open Go.RowKit Go.Proofs.Ytjchmckbhfoopaa.PS Go.Proofs.YtjchmckbhfoopaaW.PrintWords Go.Proofs.YtjchmckbhfoopaaW.PrintLast Go.Proofs.YtjchmckbhfoopaaW.PrintMore
theorem fin_ev : Ev (fun k => (linkhouselaw8_sampled.f k).bind fun t => (some t)) true := Ev.bind sampled_ev (Ev.now _)
theorem same_len (r : List S32) : Ev (fun k => if ((([] : List S32)).length : Int) = 0 then ((linkhouselaw8_sampled.f k).bind fun t270 => (some t270)) else (some false)) true := by
  simp only [List.length_nil, Int.natCast_zero, if_true]
  exact fin_ev
theorem j9_ev (a b : List S32) (ga : GoodP a) (gb : GoodP b) : Ev (fun k => lawMatches.j9 k (mergeS a b).1 (mergeL a b) (mergeS a b).2.1 (mergeS a b).2.2) true := by
  refine Ev.step (f := fun k => _) (fun k => by simp only [lawMatches.j9]; rfl) ?_
  refine Ev.bind (pfault_ev _) ?_
  unfold mergeS
  rw [if_neg (by simp [(vf_good a).2 ga]), if_neg (by simp [(vf_good b).2 gb])]
  by_cases h : vf (mergeL a b) = (0, 0)
  · simp only [h, ne_eq, not_true_eq_false, if_false, if_true]
    have := ((vf_good _).1 h).len
    refine Ev.bind (same_ev _ (by omega)) ?_
    simp only [if_true]
    exact fin_ev
  · have h1 : ¬ (vf (mergeL a b)).1 = 0 := fun e => h (vf_code e)
    simp only [ne_eq, h, not_false_eq_true, if_true, if_neg h1, linkhouseref7_At.f, Option.bind_some]
    simp only [beq_self_eq_true, Bool.and_self, if_true, List.length_nil, Int.natCast_zero]
    exact fin_ev
theorem j8_good (a b : List S32) (ga : GoodP a) (gb : GoodP b) : Ev (fun k => lawMatches.j8 k a b (mergeS a b).1 (mergeS a b).2.1 (mergeS a b).2.2 0 0) true := by
  have hal := ga.len
  have hbl := gb.len
  refine Ev.step (f := fun k => ((linkhouseref8_Profile.f k (a ++ b)).bind fun t261 => (lawMatches.j9 k (mergeS a b).1 t261 (mergeS a b).2.1 (mergeS a b).2.2))) (fun k => ?_) ?_
  · simp only [lawMatches.j8, if_true, List.nil_append, Option.bind_some, List.length_nil]
    rw [if_pos (by omega), if_pos (by omega)]
  · have hcn : Cn (a ++ b) 1000000 := fun x hx => by
      rcases List.mem_append.1 hx with hx | hx
      · exact ga.cn x hx
      · exact gb.cn x hx
    refine Ev.bind (prof_ev (a ++ b) 1000000 hcn (by omega) (by simp; omega) (by simp; omega)) ?_
    rw [← profS_merge a b 1000000 1000000 (by omega) ga.srt ga.cn gb.inr gb.cn (by omega) (by omega)]
    exact j9_ev a b ga gb
theorem j8_bad (a b : List S32) (e0 e1 : Int) (h0 : e0 ≠ 0) (h : mergeS a b = ([], e0, e1)) : Ev (fun k => lawMatches.j8 k a b (mergeS a b).1 (mergeS a b).2.1 (mergeS a b).2.2 e0 e1) true := by
  rw [h]
  refine Ev.step (f := fun k => (linkhouselaw8_sampled.f k).bind fun t254 => (some t254)) (fun k => ?_) fin_ev
  simp only [lawMatches.j8]
  rw [if_neg h0]
  simp
theorem j6_ev (a b : List S32) : Ev (fun k => lawMatches.j6 k a b (mergeS a b).1 false (mergeS a b).2.1 (mergeS a b).2.2) true := by
  refine Ev.step (f := fun k => _) (fun k => by simp only [lawMatches.j6]; rw [if_neg (by simp)]) ?_
  refine Ev.bind (pfault_ev a) ?_
  by_cases ha : (vf a).1 = 0
  · have ga := (vf_good a).1 (vf_code ha)
    simp only [if_pos ha]
    refine Ev.bind (pfault_ev b) ?_
    by_cases hb : (vf b).1 = 0
    · have gb := (vf_good b).1 (vf_code hb)
      have hb' : ((vf b).1 != 0) = false := by simpa using hb
      rw [hb', vf_code ha]
      refine Ev.step (f := fun k => lawMatches.j8 k a b (mergeS a b).1 (mergeS a b).2.1 (mergeS a b).2.2 0 0) (fun k => by simp only [lawMatches.j7]; rw [if_neg (by simp)]) ?_
      exact j8_good a b ga gb
    · have hb' : ((vf b).1 != 0) = true := by simpa using hb
      rw [hb']
      refine Ev.step (f := fun k => _) (fun k => by simp only [lawMatches.j7]; rw [if_pos trivial]) ?_
      refine Ev.bind (pfault_ev b) ?_
      simp only [linkhouseref7_At.f, Option.bind_some]
      refine j8_bad a b _ _ hb ?_
      unfold mergeS
      rw [if_neg (by simp [(vf_good a).2 ga]), if_pos (fun e => hb (by rw [e]))]
  · simp only [if_neg ha]
    refine Ev.step (f := fun k => lawMatches.j8 k a b (mergeS a b).1 (mergeS a b).2.1 (mergeS a b).2.2 (vf a).1 (vf a).2) (fun k => by simp only [lawMatches.j7]; rw [if_neg (by simp)]) ?_
    refine j8_bad a b _ _ ha ?_
    unfold mergeS
    rw [if_pos (fun e => ha (by rw [e]))]
/-- Behind the loop: the samples that were taken, the fault. -/
theorem j3_end (l0 : List S30) (a1 : Int) (a b tk : List S32) (n i : Int) (T : List S32 × Int × Int) (e0 e1 : Int) (hr : InR tk) (hc : Cn tk 1) (hl : tk.length ≤ 10000)
    (hok : e0 = 0 → e1 = 0 ∧ T = endS (mergeL [] tk)) (hbad : e0 ≠ 0 → T = ([], e0, e1)) :
    Ev (fun k => lawMatches.j3 k l0 a1 a b T.1 (mergeS a b).1 tk n i false T.2.1 T.2.2 (mergeS a b).2.1 (mergeS a b).2.2 e0 e1) true := by
  refine Ev.step (f := fun k => _) (fun k => by simp only [lawMatches.j3]; rw [if_neg (by simp)]) ?_
  refine Ev.bind (prof_ev tk 1 hc (by omega) (by omega) (by omega)) ?_
  have hpm : mergeL [] tk = profS tk := by
    have := profS_merge [] tk 1 0 (by omega) srt_nil (fun x hx => by simp at hx) hr hc (by omega) (by omega)
    simpa using this
  by_cases he : e0 = 0
  · obtain ⟨he1, hT⟩ := hok he
    subst he he1
    rw [hpm] at hT
    simp only [if_true]
    by_cases h200 : ((profS tk).length : Int) > 200
    · rw [decide_eq_true h200]
      have hT' : T = ([], 10, -3) := by rw [hT]; unfold endS; rw [if_pos h200]
      rw [hT']
      refine Ev.step (f := fun k => lawMatches.j5 k a b [] (mergeS a b).1 (profS tk) 10 (-3) (mergeS a b).2.1 (mergeS a b).2.2 10 (-3)) (fun k => by simp only [lawMatches.j4, linkhouseref7_At.f, Option.bind_some]; rw [if_pos trivial]) ?_
      refine Ev.step (f := fun k => lawMatches.j6 k a b (mergeS a b).1 false (mergeS a b).2.1 (mergeS a b).2.2) (fun k => by simp [lawMatches.j5]) ?_
      exact j6_ev a b
    · rw [decide_eq_false h200]
      have hT' : T = (profS tk, 0, 0) := by rw [hT]; unfold endS; rw [if_neg h200]
      rw [hT']
      refine Ev.step (f := fun k => lawMatches.j5 k a b (profS tk) (mergeS a b).1 (profS tk) 0 0 (mergeS a b).2.1 (mergeS a b).2.2 0 0) (fun k => by simp only [lawMatches.j4]; rw [if_neg (by simp)]) ?_
      refine Ev.step (f := fun k => (linkhouseref8_SameProfile.f k (profS tk) (profS tk)).bind fun t245 => (lawMatches.j6 k a b (mergeS a b).1 (!t245) (mergeS a b).2.1 (mergeS a b).2.2)) (fun k => by simp [lawMatches.j5]) ?_
      refine Ev.bind (same_ev _ (by omega)) ?_
      simp only [Bool.not_true]
      exact j6_ev a b
  · have hT' := hbad he
    simp only [if_neg he]
    rw [hT']
    refine Ev.step (f := fun k => lawMatches.j5 k a b [] (mergeS a b).1 (profS tk) e0 e1 (mergeS a b).2.1 (mergeS a b).2.2 e0 e1) (fun k => by simp only [lawMatches.j4]; rw [if_neg (by simp)]) ?_
    refine Ev.step (f := fun k => lawMatches.j6 k a b (mergeS a b).1 false (mergeS a b).2.1 (mergeS a b).2.2) (fun k => by simp [lawMatches.j5, he]) ?_
    exact j6_ev a b
/-- A fault ends the loop. -/
theorem l0_bad (l0 : List S30) (a1 : Int) (a b tk : List S32) (n i : Int) (T : List S32 × Int × Int) (e0 e1 : Int) (hr : InR tk) (hc : Cn tk 1) (hl : tk.length ≤ 10000) (he : e0 ≠ 0) (hT : T = ([], e0, e1)) :
    Ev (fun k => lawMatches.l0 k l0 a1 a b T.1 (mergeS a b).1 tk n i T.2.1 T.2.2 (mergeS a b).2.1 (mergeS a b).2.2 e0 e1) true := by
  refine Ev.step (f := fun k => lawMatches.j3 k l0 a1 a b T.1 (mergeS a b).1 tk n i false T.2.1 T.2.2 (mergeS a b).2.1 (mergeS a b).2.2 e0 e1) (fun k => ?_) (j3_end l0 a1 a b tk n i T e0 e1 hr hc hl (fun h => absurd h he) (fun _ => hT))
  simp only [lawMatches.l0]
  have : (e0 == 0) = false := by simpa using he
  rw [this]
  split <;> rfl
theorem l0_ev (l0 : List S30) (a1 : Int) (he : 1 ≤ a1) (a b : List S32) (T : List S32 × Int × Int) (hl : l0.length ≤ 10000) : ∀ (es : List S30) (m : Nat) (tk : List S32) (n : Int), l0.drop m = es → m ≤ l0.length → InR tk → Cn tk 1 → tk.length ≤ m → 0 ≤ n → n ≤ m → T = takeL a1 es m (mergeL [] tk) n →
    Ev (fun k => lawMatches.l0 k l0 a1 a b T.1 (mergeS a b).1 tk n m T.2.1 T.2.2 (mergeS a b).2.1 (mergeS a b).2.2 0 0) true := by
  intro es
  induction es with
  | nil =>
    intro m tk n hd hm hr hc htl h0 hn hT
    have hml := drop_nil_le hd
    refine Ev.step (f := fun k => lawMatches.j3 k l0 a1 a b T.1 (mergeS a b).1 tk n m false T.2.1 T.2.2 (mergeS a b).2.1 (mergeS a b).2.2 0 0) (fun k => ?_) (j3_end l0 a1 a b tk n m T 0 0 hr hc (by omega) (fun _ => ⟨rfl, hT⟩) (fun h => absurd rfl h))
    simp only [lawMatches.l0]
    rw [if_neg (by omega)]
  | cons e es ih =>
    intro m tk n hd hm hr hc htl h0 hn hT
    obtain ⟨hrd, hml, hd'⟩ := rd30 l0 m e es hd
    have hw : wrap64 ((m : Int) + 1) = ((m + 1 : Nat) : Int) := by rw [wrap_id (by omega) (by omega)]; rfl
    have hwn : wrap64 (n + 1) = n + 1 := wrap_id (by omega) (by omega)
    have hm1 : ((m : Int) + 1) = ((m + 1 : Nat) : Int) := rfl
    refine Ev.step (f := fun k => lawMatches.j3 k l0 a1 a b T.1 (mergeS a b).1 tk n m true T.2.1 T.2.2 (mergeS a b).2.1 (mergeS a b).2.2 0 0) (fun k => by simp only [lawMatches.l0]; rw [if_pos (by omega)]; rfl) ?_
    by_cases hbad : e.f1 < -1 ∨ e.f1 ≥ 1048576
    · have hT' : T = ([], 3, (m : Int)) := by rw [hT]; simp only [takeL]; rw [if_pos hbad]
      have hin : linkhouseref7_In.f e.f1 (-1) 1048575 = some false := by
        unfold linkhouseref7_In.f
        by_cases h : -1 ≤ e.f1
        · rw [if_pos h, decide_eq_false (by omega)]
        · rw [if_neg h]
      refine Ev.step (f := fun k => lawMatches.l0 k l0 a1 a b T.1 (mergeS a b).1 tk n ((m + 1 : Nat) : Int) T.2.1 T.2.2 (mergeS a b).2.1 (mergeS a b).2.2 3 m) (fun k => ?_) (l0_bad l0 a1 a b tk n _ T 3 m hr hc (by omega) (by omega) hT')
      simp only [lawMatches.j3, linkhouseref7_At.f]
      rw [if_pos trivial, if_pos (by omega), if_pos (by omega), hrd, hin]
      simp only [Option.bind_some]
      rw [if_neg (by simp), hw]
    · have hin : linkhouseref7_In.f e.f1 (-1) 1048575 = some true := by
        unfold linkhouseref7_In.f
        rw [if_pos (by omega), decide_eq_true (by omega)]
      by_cases h1 : e.f1 = -1
      · refine Ev.step (f := fun k => lawMatches.l0 k l0 a1 a b T.1 (mergeS a b).1 tk n ((m + 1 : Nat) : Int) T.2.1 T.2.2 (mergeS a b).2.1 (mergeS a b).2.2 0 0) (fun k => ?_) (ih (m + 1) tk n hd' (by omega) hr hc (by omega) h0 (by omega) (by rw [hT]; simp only [takeL]; rw [if_neg hbad, if_pos h1, hm1]))
        simp only [lawMatches.j3]
        rw [if_pos trivial, if_pos (by omega), if_pos (by omega), hrd, hin]
        simp only [Option.bind_some]
        rw [if_pos trivial, if_neg (by omega), hw]
      · by_cases h2 : (n + 1) % a1 = 0
        · refine Ev.step (f := fun k => lawMatches.l0 k l0 a1 a b T.1 (mergeS a b).1 (tk ++ [⟨e.f1, 1⟩]) (n + 1) ((m + 1 : Nat) : Int) T.2.1 T.2.2 (mergeS a b).2.1 (mergeS a b).2.2 0 0) (fun k => ?_) (ih (m + 1) (tk ++ [⟨e.f1, 1⟩]) (n + 1) hd' (by omega) (fun x hx => ?_) (fun x hx => ?_) (by simp; omega) (by omega) (by omega) ?_)
          · simp only [lawMatches.j3]
            rw [if_pos trivial, if_pos (by omega), if_pos (by omega), hrd, hin]
            simp only [Option.bind_some]
            rw [if_pos trivial, if_pos (by omega), if_neg (by omega), hwn, if_pos (by rw [Int.tmod_eq_emod_of_nonneg (by omega)]; exact h2), if_pos (by omega), hw]
          · rcases List.mem_append.1 hx with hx | hx
            · exact hr x hx
            · simp at hx; subst hx; simp; omega
          · rcases List.mem_append.1 hx with hx | hx
            · exact hc x hx
            · simp at hx; subst hx; simp
          · rw [hT]; simp only [takeL]; rw [if_neg hbad, if_neg h1, if_pos h2, hm1, mergeL_append]; rfl
        · refine Ev.step (f := fun k => lawMatches.l0 k l0 a1 a b T.1 (mergeS a b).1 tk (n + 1) ((m + 1 : Nat) : Int) T.2.1 T.2.2 (mergeS a b).2.1 (mergeS a b).2.2 0 0) (fun k => ?_) (ih (m + 1) tk (n + 1) hd' (by omega) hr hc (by omega) (by omega) (by omega) (by rw [hT]; simp only [takeL]; rw [if_neg hbad, if_neg h1, if_neg h2, hm1]))
          simp only [lawMatches.j3]
          rw [if_pos trivial, if_pos (by omega), if_pos (by omega), hrd, hin]
          simp only [Option.bind_some]
          rw [if_pos trivial, if_pos (by omega), if_neg (by omega), hwn, if_neg (by rw [Int.tmod_eq_emod_of_nonneg (by omega)]; exact h2), hw]
theorem SamplingMatchesSpec (l0 : List S30) (h0 : l0.length ≤ 9223372036854775807) (a1 : Int) (l2 : List S32) (h2 : l2.length ≤ 9223372036854775807) (l3 : List S32) (h3 : l3.length ≤ 9223372036854775807) : ∃ k, lawMatches.f k l0 a1 l2 l3 = some true := by
  refine Ev.rounds (g := fun k => lawMatches.f k l0 a1 l2 l3) ?_
  unfold lawMatches.f
  refine Ev.bind (take_ev l0 a1) ?_
  refine Ev.bind (merge_ev l2 l3) ?_
  refine Ev.bind (validate_ev l2) ?_
  refine Ev.bind (pfault_ev l2) ?_
  simp only [beq_self_eq_true, Bool.not_true, Bool.or_self, Bool.false_eq_true, if_false]
  refine Ev.bind (validate_ev l3) ?_
  refine Ev.bind (pfault_ev l3) ?_
  simp only [beq_self_eq_true, Bool.not_true, Bool.or_self]
  have nr : InR [] := fun x hx => by simp at hx
  have nc : Cn [] 1 := fun x hx => by simp at hx
  obtain ⟨T, hT⟩ : ∃ T, T = takeS l0 a1 := ⟨_, rfl⟩
  rw [← hT]
  by_cases hlen : (l0.length : Int) > 10000
  · refine Ev.step (f := fun k => lawMatches.j1 k l0 a1 l2 l3 T.1 (mergeS l2 l3).1 T.2.1 T.2.2 (mergeS l2 l3).2.1 (mergeS l2 l3).2.2 2 (-1)) (fun k => ?_) ?_
    · simp only [lawMatches.j0, linkhouseref7_At.f]
      rw [if_neg (by simp), if_pos hlen]; rfl
    · refine Ev.step (f := fun k => lawMatches.l0 k l0 a1 l2 l3 T.1 (mergeS l2 l3).1 [] 0 0 T.2.1 T.2.2 (mergeS l2 l3).2.1 (mergeS l2 l3).2.2 2 (-1)) (fun k => by simp only [lawMatches.j1]) ?_
      exact l0_bad l0 a1 l2 l3 [] 0 0 T 2 (-1) nr nc (by simp) (by omega) (by rw [hT]; unfold takeS; rw [if_pos hlen])
  · by_cases hev : a1 < 1 ∨ a1 > 5000
    · have hin : linkhouseref7_In.f a1 1 5000 = some false := by
        unfold linkhouseref7_In.f
        by_cases h : 1 ≤ a1
        · rw [if_pos h, decide_eq_false (by omega)]
        · rw [if_neg h]
      refine Ev.step (f := fun k => lawMatches.j1 k l0 a1 l2 l3 T.1 (mergeS l2 l3).1 T.2.1 T.2.2 (mergeS l2 l3).2.1 (mergeS l2 l3).2.2 3 (-2)) (fun k => ?_) ?_
      · simp only [lawMatches.j0, linkhouseref7_At.f]
        rw [if_neg (by simp), if_neg hlen, hin]; rfl
      · refine Ev.step (f := fun k => lawMatches.l0 k l0 a1 l2 l3 T.1 (mergeS l2 l3).1 [] 0 0 T.2.1 T.2.2 (mergeS l2 l3).2.1 (mergeS l2 l3).2.2 3 (-2)) (fun k => by simp only [lawMatches.j1]) ?_
        exact l0_bad l0 a1 l2 l3 [] 0 0 T 3 (-2) nr nc (by simp) (by omega) (by rw [hT]; unfold takeS; rw [if_neg hlen, if_pos hev])
    · have hin : linkhouseref7_In.f a1 1 5000 = some true := by
        unfold linkhouseref7_In.f
        rw [if_pos (by omega), decide_eq_true (by omega)]
      refine Ev.step (f := fun k => lawMatches.j1 k l0 a1 l2 l3 T.1 (mergeS l2 l3).1 T.2.1 T.2.2 (mergeS l2 l3).2.1 (mergeS l2 l3).2.2 0 0) (fun k => ?_) ?_
      · simp only [lawMatches.j0]
        rw [if_neg (by simp), if_neg hlen, hin]; rfl
      · refine Ev.step (f := fun k => lawMatches.l0 k l0 a1 l2 l3 T.1 (mergeS l2 l3).1 [] 0 ((0 : Nat) : Int) T.2.1 T.2.2 (mergeS l2 l3).2.1 (mergeS l2 l3).2.2 0 0) (fun k => by simp only [lawMatches.j1]; rfl) ?_
        exact l0_ev l0 a1 (by omega) l2 l3 T (by omega) l0 0 [] 0 rfl (by omega) nr nc (by simp) (by omega) (by omega) (by rw [hT]; unfold takeS; rw [if_neg hlen, if_neg hev]; rfl)
end Go.Proofs.Ytjchmckbhfoopaa.Pure
