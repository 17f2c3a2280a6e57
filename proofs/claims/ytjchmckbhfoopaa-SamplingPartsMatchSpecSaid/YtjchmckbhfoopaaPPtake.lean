/- What sampling.Take comes to, over lists: the plain facts on it. Conditions: none. -/
import Derived.Test.YtjchmckbhfoopaaPPx4
import Derived.Test.YtjchmckbhfoopaaPPx5
namespace Go.Proofs.Ytjchmckbhfoopaa.PP
open Go.RowKit Go.Proofs.YtjchmckbhfoopaaW.PrintWords Go.Proofs.YtjchmckbhfoopaaW.PrintLast Go.Proofs.YtjchmckbhfoopaaW.PrintMore
set_option linter.unusedVariables false
set_option linter.unusedSimpArgs false
/-- Addresses rise and lie in the range. -/
def Srt (l : List S32) : Prop := (∀ x ∈ l, 0 ≤ x.f0 ∧ x.f0 ≤ 1048576) ∧ l.Pairwise (fun x y => x.f0 < y.f0)
theorem addS_mem (l : List S32) (a n : Int) : ∀ x ∈ addS l a n, x.f0 = a ∨ ∃ y ∈ l, x.f0 = y.f0 := by
  induction l with
  | nil => intro x hx; simp [addS] at hx; exact .inl (by rw [hx])
  | cons y ys ih =>
    intro x hx
    unfold addS at hx
    split at hx
    · rcases List.mem_cons.1 hx with rfl | hx
      · exact .inr ⟨_, by simp, rfl⟩
      · rcases ih x hx with h | ⟨z, hz, h⟩
        · exact .inl h
        · exact .inr ⟨z, List.mem_cons_of_mem _ hz, h⟩
    · split at hx
      · rcases List.mem_cons.1 hx with rfl | hx
        · exact .inl rfl
        · exact .inr ⟨x, List.mem_cons_of_mem _ hx, rfl⟩
      · rcases List.mem_cons.1 hx with rfl | hx
        · exact .inl rfl
        · exact .inr ⟨x, hx, rfl⟩
theorem addS_srt {l : List S32} {a n : Int} (h : Srt l) (h0 : 0 ≤ a) (h1 : a ≤ 1048576) : Srt (addS l a n) := by
  obtain ⟨hr, hp⟩ := h
  refine ⟨fun x hx => ?_, ?_⟩
  · rcases addS_mem l a n x hx with h | ⟨y, hy, h⟩
    · omega
    · have := hr y hy; omega
  · clear hr
    induction l with
    | nil => simp [addS]
    | cons y ys ih =>
      rw [List.pairwise_cons] at hp
      unfold addS
      split
      · rename_i hlt
        rw [List.pairwise_cons]
        refine ⟨fun x hx => ?_, ih hp.2⟩
        rcases addS_mem ys a n x hx with h | ⟨z, hz, h⟩
        · omega
        · have := hp.1 z hz; omega
      · split
        · rename_i hlt he
          rw [List.pairwise_cons]
          exact ⟨fun x hx => by have := hp.1 x hx; simp; omega, hp.2⟩
        · rename_i hlt he
          rw [List.pairwise_cons, List.pairwise_cons]
          refine ⟨fun x hx => ?_, hp⟩
          rcases List.mem_cons.1 hx with rfl | hx
          · simp; omega
          · have := hp.1 x hx; simp; omega
theorem addS_len (l : List S32) (a n : Int) : (addS l a n).length ≤ l.length + 1 := by
  induction l with
  | nil => simp [addS]
  | cons y ys ih =>
    unfold addS
    split
    · simp; omega
    · split <;> simp
theorem addS_ne (l : List S32) (a n : Int) : addS l a n ≠ [] := by
  cases l with
  | nil => simp [addS]
  | cons y ys => unfold addS; split <;> (try split) <;> simp
theorem add_f {l : List S32} {a n : Int} (h : Srt l) (h0 : 0 ≤ a) (h1 : a ≤ 1048576) (hl : l.length < 8000000000000) : sampling_add.f l a n = some (addS l a n) := by
  unfold sampling_add.f
  rw [if_pos ⟨h.1, ⟨h0, h1⟩, h.2, hl⟩]
/-- What Take comes to, over the events that are left. -/
def takeL (every : Int) : List S30 → Int → List S32 → Int → List S32 × Int × Int
  | [], _, out, _ => if (out.length : Int) > 200 then ([], 10, -3) else (out, 0, 0)
  | e :: es, i, out, n => if e.f1 < -1 ∨ e.f1 ≥ 1048576 then ([], 3, i) else if e.f1 = -1 then takeL every es (i + 1) out n else
      if (n + 1) % every = 0 then takeL every es (i + 1) (addS out e.f1 1) (n + 1) else takeL every es (i + 1) out (n + 1)
theorem rd30 (l : List S30) (m : Nat) (e : S30) (es : List S30) (h : l.drop m = e :: es) : rd_T30 l (m : Int) = e ∧ m < l.length ∧ l.drop (m + 1) = es := by
  have hm : m < l.length := by
    rcases Nat.lt_or_ge m l.length with h1 | h1
    · exact h1
    · rw [List.drop_of_length_le h1] at h; cases h
  rw [List.drop_eq_getElem_cons hm] at h
  injection h with h1 h2
  exact ⟨by simp [rd_T30, hm, h1], hm, h2⟩
theorem rd32 (l : List S32) (m : Nat) (e : S32) (es : List S32) (h : l.drop m = e :: es) : rd_T32 l (m : Int) = e ∧ m < l.length ∧ l.drop (m + 1) = es := by
  have hm : m < l.length := by
    rcases Nat.lt_or_ge m l.length with h1 | h1
    · exact h1
    · rw [List.drop_of_length_le h1] at h; cases h
  rw [List.drop_eq_getElem_cons hm] at h
  injection h with h1 h2
  exact ⟨by simp [rd_T32, hm, h1], hm, h2⟩
theorem wrap_id {x : Int} (h0 : -9223372036854775808 ≤ x) (h1 : x ≤ 9223372036854775807) : wrap64 x = x := by unfold wrap64; omega
theorem take_l0 (every : Int) (he : 1 ≤ every) (l : List S30) (hl : l.length ≤ 10000) : ∀ (es : List S30) (m : Nat) (out : List S32) (n : Int), l.drop m = es → Srt out → out.length ≤ m → 0 ≤ n → n ≤ m → m ≤ l.length →
    Ev (fun k => sampling_Take.l0 k every out n l (l.length : Int) (m : Int)) (takeL every es m out n) := by
  intro es
  induction es with
  | nil =>
    intro m out n hd hs ho h0 hn hm
    have hml : l.length ≤ m := by
      rcases Nat.lt_or_ge m l.length with h | h
      · rw [List.drop_eq_getElem_cons h] at hd; cases hd
      · exact h
    refine Ev.step (f := fun _ => some (takeL every [] m out n)) (fun k => ?_) (Ev.now _)
    simp only [sampling_Take.l0, takeL]
    rw [if_neg (by omega)]
    split <;> rfl
  | cons e es ih =>
    intro m out n hd hs ho h0 hn hm
    obtain ⟨hrd, hml, hd'⟩ := rd30 l m e es hd
    have hw : wrap64 ((m : Int) + 1) = ((m + 1 : Nat) : Int) := by rw [wrap_id (by omega) (by omega)]; rfl
    have hwn : wrap64 (n + 1) = n + 1 := wrap_id (by omega) (by omega)
    have hm1 : ((m : Int) + 1) = ((m + 1 : Nat) : Int) := rfl
    by_cases hbad : e.f1 < -1 ∨ e.f1 ≥ 1048576
    · refine Ev.step (f := fun k => sampling_Take.j1 k every out n m l (l.length : Int) m true e.f0 e.f1 e.f2) (fun k => ?_) ?_
      · simp only [sampling_Take.l0]
        rw [if_pos (by omega), if_pos (by omega), if_pos (by omega), hrd]
        split
        · rfl
        · rw [decide_eq_true (by omega)]
      · refine Ev.step (f := fun _ => some (takeL every (e :: es) m out n)) (fun k => ?_) (Ev.now _)
        simp only [sampling_Take.j1, takeL]
        rw [if_pos hbad, if_pos trivial]
    · refine Ev.step (f := fun k => sampling_Take.j1 k every out n m l (l.length : Int) m false e.f0 e.f1 e.f2) (fun k => ?_) ?_
      · simp only [sampling_Take.l0]
        rw [if_pos (by omega), if_pos (by omega), if_pos (by omega), hrd, if_neg (by omega), decide_eq_false (by omega)]
      · by_cases h1 : e.f1 = -1
        · refine Ev.step (f := fun k => sampling_Take.l0 k every out n l (l.length : Int) ((m + 1 : Nat) : Int)) (fun k => ?_) ?_
          · simp only [sampling_Take.j1]
            rw [if_neg (by simp), if_pos h1, hw]
          · have := ih (m + 1) out n hd' hs (by omega) h0 (by omega) (by omega)
            simp only [takeL]
            rw [if_neg hbad, if_pos h1, hm1]
            exact this
        · by_cases h2 : (n + 1) % every = 0
          · refine Ev.step (f := fun k => sampling_Take.l0 k every (addS out e.f1 1) (n + 1) l (l.length : Int) ((m + 1 : Nat) : Int)) (fun k => ?_) ?_
            · simp only [sampling_Take.j1]
              rw [if_neg (by simp), if_neg h1, if_neg (by omega), hwn, if_pos (by rw [Int.tmod_eq_emod_of_nonneg (by omega)]; exact h2), add_f hs (by omega) (by omega) (by omega), hw]
              rfl
            · have := ih (m + 1) (addS out e.f1 1) (n + 1) hd' (addS_srt hs (by omega) (by omega)) (by have := addS_len out e.f1 1; omega) (by omega) (by omega) (by omega)
              simp only [takeL]
              rw [if_neg hbad, if_neg h1, if_pos h2, hm1]
              exact this
          · refine Ev.step (f := fun k => sampling_Take.l0 k every out (n + 1) l (l.length : Int) ((m + 1 : Nat) : Int)) (fun k => ?_) ?_
            · simp only [sampling_Take.j1]
              rw [if_neg (by simp), if_neg h1, if_neg (by omega), hwn, if_neg (by rw [Int.tmod_eq_emod_of_nonneg (by omega)]; exact h2), hw]
            · have := ih (m + 1) out (n + 1) hd' hs (by omega) (by omega) (by omega) (by omega)
              simp only [takeL]
              rw [if_neg hbad, if_neg h1, if_neg h2, hm1]
              exact this
/-- What Take comes to. -/
def takeS (l : List S30) (every : Int) : List S32 × Int × Int := if (l.length : Int) > 10000 then ([], 2, -1) else if every < 1 ∨ every > 5000 then ([], 3, -2) else takeL every l 0 [] 0
theorem srt_nil : Srt [] := ⟨by simp, List.Pairwise.nil⟩
theorem take_ev (l : List S30) (every : Int) : Ev (fun k => sampling_Take.f k l every) (takeS l every) := by
  unfold takeS
  by_cases h1 : (l.length : Int) > 10000
  · refine Ev.congr (f := fun _ => some (([] : List S32), 2, -1)) (fun k => ?_) (by rw [if_pos h1]; exact Ev.now _)
    simp only [sampling_Take.f]
    rw [if_pos h1]
  · by_cases h2 : every < 1 ∨ every > 5000
    · refine Ev.congr (f := fun _ => some (([] : List S32), 3, -2)) (fun k => ?_) (by rw [if_neg h1, if_pos h2]; exact Ev.now _)
      simp only [sampling_Take.f]
      rw [if_neg h1]
      split
      · rfl
      · rw [if_pos (by omega)]
    · rw [if_neg h1, if_neg h2]
      refine Ev.congr (f := fun k => sampling_Take.l0 k every [] 0 l (l.length : Int) ((0 : Nat) : Int)) (fun k => ?_) (take_l0 every (by omega) l (by omega) l 0 [] 0 rfl srt_nil (by simp) (by omega) (by omega) (by omega))
      simp only [sampling_Take.f]
      rw [if_neg h1, if_neg (by omega), if_neg (by omega)]
      rfl
/-- The sum of the counts. -/
def sumC : List S32 → Int
  | [] => 0
  | x :: xs => x.f1 + sumC xs
def Cn (l : List S32) (N : Int) : Prop := ∀ x ∈ l, 1 ≤ x.f1 ∧ x.f1 ≤ N
theorem Cn.mono {l : List S32} {N M : Int} (h : Cn l N) (hm : N ≤ M) : Cn l M := fun x hx => by have := h x hx; omega
theorem addS_cn {l : List S32} {a n N : Int} (h : Cn l N) (hn : 1 ≤ n) (h0 : 0 ≤ N) (hN : N + n ≤ 9000000000000000000) : Cn (addS l a n) (N + n) := by
  induction l with
  | nil => intro x hx; simp [addS] at hx; subst hx; simp; omega
  | cons y ys ih =>
    have hy := h y (by simp)
    have hys : Cn ys N := fun x hx => h x (List.mem_cons_of_mem _ hx)
    intro x hx
    unfold addS at hx
    split at hx
    · rcases List.mem_cons.1 hx with rfl | hx
      · omega
      · exact ih hys x hx
    · split at hx
      · rcases List.mem_cons.1 hx with rfl | hx
        · simp only []; rw [wrap_id (by omega) (by omega)]; omega
        · have := hys x hx; omega
      · rcases List.mem_cons.1 hx with rfl | hx
        · simp only []; omega
        · have := h x hx; omega
theorem addS_sum {l : List S32} {a n N : Int} (h : Cn l N) (hn : 1 ≤ n) (hN : N + n ≤ 9000000000000000000) : sumC (addS l a n) = sumC l + n := by
  induction l with
  | nil => simp [addS, sumC]
  | cons y ys ih =>
    have hy := h y (by simp)
    have hys : Cn ys N := fun x hx => h x (List.mem_cons_of_mem _ hx)
    unfold addS
    split
    · simp only [sumC]; rw [ih hys]; omega
    · split
      · simp only [sumC]; rw [wrap_id (by omega) (by omega)]; omega
      · simp only [sumC]; omega
/-- How many instructions of the events were executed. -/
def cntE : List S30 → Int
  | [] => 0
  | e :: es => if e.f1 = -1 then cntE es else 1 + cntE es
theorem cntE_bd (es : List S30) : 0 ≤ cntE es ∧ cntE es ≤ es.length := by
  induction es with
  | nil => simp [cntE]
  | cons e es ih => unfold cntE; split <;> simp <;> omega
theorem div_step (n d : Int) (hd : 1 ≤ d) (h0 : 0 ≤ n) : (n + 1) / d = n / d + (if (n + 1) % d = 0 then 1 else 0) := by
  have e1 := Int.emod_add_mul_ediv n d
  have e2 := Int.emod_add_mul_ediv (n + 1) d
  have b1 := Int.emod_nonneg n (show d ≠ 0 by omega)
  have b2 := Int.emod_lt_of_pos n (show 0 < d by omega)
  have b3 := Int.emod_nonneg (n + 1) (show d ≠ 0 by omega)
  have b4 := Int.emod_lt_of_pos (n + 1) (show 0 < d by omega)
  by_cases h : n % d + 1 = d
  · have hq : (n + 1) = d * (n / d + 1) := by rw [Int.mul_add]; omega
    have h1 : (n + 1) % d = 0 := by rw [hq]; exact Int.mul_emod_right _ _
    have h2 : (n + 1) / d = n / d + 1 := by rw [hq]; exact Int.mul_ediv_cancel_left _ (by omega)
    rw [h2, if_pos h1]
  · have hq : n + 1 = (n % d + 1) + d * (n / d) := by omega
    have h2 : (n + 1) / d = n / d := by
      rw [hq, Int.add_mul_ediv_left _ _ (by omega), Int.ediv_eq_zero_of_lt (by omega) (by omega)]; simp
    have h1 : (n + 1) % d = n % d + 1 := by
      rw [hq, Int.add_mul_emod_self_left, Int.emod_eq_of_lt (by omega) (by omega)]
    rw [h2, if_neg (by omega)]; simp
theorem takeL_ok (every : Int) (he : 1 ≤ every) : ∀ (es : List S30) (i : Int) (out : List S32) (n : Int) (r : List S32), takeL every es i out n = (r, 0, 0) → Srt out → Cn out n → 0 ≤ n → n + es.length ≤ 10000 →
    (∀ e ∈ es, -1 ≤ e.f1 ∧ e.f1 < 1048576) ∧ sumC r = sumC out + ((n + cntE es) / every - n / every) ∧ Srt r ∧ Cn r (n + cntE es) ∧ r.length ≤ 200 := by
  intro es
  induction es with
  | nil =>
    intro i out n r h hs hc h0 hn
    simp only [takeL] at h
    split at h
    · cases h
    · injection h with h1 h2
      subst h1
      refine ⟨by simp, by simp [cntE], hs, by simpa [cntE] using hc, by omega⟩
  | cons e es ih =>
    intro i out n r h hs hc h0 hn
    simp only [takeL] at h
    simp only [List.length_cons] at hn
    have hb := cntE_bd es
    split at h
    · cases h
    · rename_i hbad
      split at h
      · rename_i h1
        obtain ⟨p1, p2, p3, p4, p5⟩ := ih _ _ _ _ h hs hc h0 (by omega)
        refine ⟨fun x hx => ?_, by simp only [cntE]; rw [if_pos h1]; exact p2, p3, by simp only [cntE]; rw [if_pos h1]; exact p4, p5⟩
        rcases List.mem_cons.1 hx with rfl | hx
        · omega
        · exact p1 x hx
      · rename_i h1
        have hds := div_step n every he h0
        have e1 : n + (1 + cntE es) = (n + 1) + cntE es := by omega
        split at h
        · rename_i h2
          rw [if_pos h2] at hds
          obtain ⟨p1, p2, p3, p4, p5⟩ := ih _ _ _ _ h (addS_srt hs (by omega) (by omega)) (addS_cn hc (by omega) (by omega) (by omega)) (by omega) (by omega)
          rw [addS_sum hc (by omega) (by omega)] at p2
          refine ⟨fun x hx => ?_, by simp only [cntE]; rw [if_neg h1, e1, p2]; omega, p3, by simp only [cntE]; rw [if_neg h1, e1]; exact p4, p5⟩
          rcases List.mem_cons.1 hx with rfl | hx
          · omega
          · exact p1 x hx
        · rename_i h2
          rw [if_neg h2] at hds
          obtain ⟨p1, p2, p3, p4, p5⟩ := ih _ _ _ _ h hs (hc.mono (by omega)) (by omega) (by omega)
          refine ⟨fun x hx => ?_, by simp only [cntE]; rw [if_neg h1, e1, p2]; omega, p3, by simp only [cntE]; rw [if_neg h1, e1]; exact p4, p5⟩
          rcases List.mem_cons.1 hx with rfl | hx
          · omega
          · exact p1 x hx
theorem takeL_err (every : Int) : ∀ (es : List S30) (i : Int) (out : List S32) (n : Int), (takeL every es i out n).2.1 = 0 → ∃ r, takeL every es i out n = (r, 0, 0) := by
  intro es
  induction es with
  | nil =>
    intro i out n h
    simp only [takeL] at h ⊢
    split at h
    · simp at h
    · rw [if_neg ‹_›]; exact ⟨_, rfl⟩
  | cons e es ih =>
    intro i out n h
    simp only [takeL] at h ⊢
    split at h
    · simp at h
    · rw [if_neg ‹_›]
      split at h
      · rw [if_pos ‹_›]; exact ih _ _ _ h
      · rw [if_neg ‹_›]
        split at h
        · rw [if_pos ‹_›]; exact ih _ _ _ h
        · rw [if_neg ‹_›]; exact ih _ _ _ h
/-- What a Take without a fault tells. -/
theorem takeS_ok {l : List S30} {every : Int} (h : (takeS l every).2.1 = 0) : ∃ r, takeS l every = (r, 0, 0) ∧ l.length ≤ 10000 ∧ 1 ≤ every ∧ every ≤ 5000 ∧ (∀ e ∈ l, -1 ≤ e.f1 ∧ e.f1 < 1048576) ∧ sumC r = cntE l / every ∧ Srt r ∧ Cn r (cntE l) ∧ r.length ≤ 200 := by
  unfold takeS at h ⊢
  split at h
  · simp at h
  · rw [if_neg ‹_›]
    split at h
    · simp at h
    · rw [if_neg ‹_›]
      obtain ⟨r, hr⟩ := takeL_err every l 0 [] 0 h
      obtain ⟨p1, p2, p3, p4, p5⟩ := takeL_ok every (by omega) l 0 [] 0 r hr srt_nil (fun x hx => by simp at hx) (by omega) (by omega)
      refine ⟨r, hr, by omega, by omega, by omega, p1, by simpa [sumC] using p2, p3, by simpa using p4, p5⟩
/-- The small profile of every law. -/
theorem sampled_ev : Ev (fun k => linkhouselaw8_sampled.f k) true := Ev.of (fun k => linkhouselaw8_sampled.mono k) (k := 30) (by decide +kernel)
end Go.Proofs.Ytjchmckbhfoopaa.PP
