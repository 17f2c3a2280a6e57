/- What sampling.Merge, sampling.Validate and the reference's profiles come to, over lists: the plain facts on them. Conditions: none. -/
import Derived.Test.YtjchmckbhfoopaaPStake
import Derived.Test.YtjchmckbhfoopaaPSx6
import Derived.Test.YtjchmckbhfoopaaPSx7
import Derived.Test.YtjchmckbhfoopaaPSx8
namespace Go.Proofs.Ytjchmckbhfoopaa.PS
open Go.RowKit Go.Proofs.YtjchmckbhfoopaaW.PrintWords Go.Proofs.YtjchmckbhfoopaaW.PrintLast Go.Proofs.YtjchmckbhfoopaaW.PrintMore
set_option linter.unusedVariables false
set_option linter.unusedSimpArgs false
/-! #### counts by address -/
def cntOf (l : List S32) (a : Int) : Int := match l with
  | [] => 0
  | x :: xs => (if x.f0 = a then x.f1 else 0) + cntOf xs a
theorem cntOf_append (l m : List S32) (a : Int) : cntOf (l ++ m) a = cntOf l a + cntOf m a := by
  induction l with
  | nil => simp [cntOf]
  | cons x xs ih => simp only [List.cons_append, cntOf, ih]; omega
theorem cntOf_zero (l : List S32) (a : Int) (h : ∀ x ∈ l, x.f0 ≠ a) : cntOf l a = 0 := by
  induction l with
  | nil => rfl
  | cons x xs ih =>
    simp only [cntOf]
    rw [if_neg (h x (by simp)), ih (fun y hy => h y (List.mem_cons_of_mem _ hy))]; rfl
/-- Strictly rising addresses. -/
def Ris (l : List S32) : Prop := l.Pairwise (fun x y => x.f0 < y.f0)
def hasA (l : List S32) (a : Int) : Prop := ∃ x ∈ l, x.f0 = a
theorem hasA_cons (x : S32) (l : List S32) (a : Int) : hasA (x :: l) a ↔ x.f0 = a ∨ hasA l a := by simp [hasA]
theorem hasA_append (l m : List S32) (a : Int) : hasA (l ++ m) a ↔ hasA l a ∨ hasA m a := by
  constructor
  · rintro ⟨x, hx, h⟩
    rcases List.mem_append.1 hx with hx | hx
    · exact .inl ⟨x, hx, h⟩
    · exact .inr ⟨x, hx, h⟩
  · rintro (⟨x, hx, h⟩ | ⟨x, hx, h⟩)
    · exact ⟨x, List.mem_append_left _ hx, h⟩
    · exact ⟨x, List.mem_append_right _ hx, h⟩
/-- Two rising lists with the same addresses and counts are one. -/
theorem ris_ext : ∀ (r s : List S32), Ris r → Ris s → (∀ a, hasA r a ↔ hasA s a) → (∀ a, cntOf r a = cntOf s a) → r = s := by
  intro r
  induction r with
  | nil =>
    intro s _ _ ha _
    cases s with
    | nil => rfl
    | cons y ys => have := (ha y.f0).2 ⟨y, by simp, rfl⟩; obtain ⟨x, hx, _⟩ := this; simp at hx
  | cons x xs ih =>
    intro s hr hs ha hc
    unfold Ris at hr hs
    rw [List.pairwise_cons] at hr
    cases s with
    | nil => have := (ha x.f0).1 ⟨x, by simp, rfl⟩; obtain ⟨y, hy, _⟩ := this; simp at hy
    | cons y ys =>
      rw [List.pairwise_cons] at hs
      have h1 : x.f0 = y.f0 := by
        have p := (ha x.f0).1 ⟨x, by simp, rfl⟩
        have q := (ha y.f0).2 ⟨y, by simp, rfl⟩
        rw [hasA_cons] at p q
        rcases p with p | ⟨z, hz, p⟩
        · exact p.symm
        · rcases q with q | ⟨u, hu, q⟩
          · exact q
          · have := hs.1 z hz; have := hr.1 u hu; omega
      have nx : ∀ z ∈ xs, z.f0 ≠ x.f0 := fun z hz => by have := hr.1 z hz; omega
      have ny : ∀ z ∈ ys, z.f0 ≠ x.f0 := fun z hz => by have := hs.1 z hz; omega
      have h2 : x.f1 = y.f1 := by
        have := hc x.f0
        simp only [cntOf] at this
        rw [cntOf_zero xs _ nx, cntOf_zero ys _ ny, if_pos trivial, if_pos h1.symm] at this
        omega
      have hxy : x = y := by cases x; cases y; simp at h1 h2; simp [h1, h2]
      subst hxy
      congr 1
      refine ih ys hr.2 hs.2 (fun a => ?_) (fun a => ?_)
      · have := ha a
        rw [hasA_cons, hasA_cons] at this
        by_cases e : x.f0 = a
        · constructor
          · rintro ⟨z, hz, h⟩; exact absurd (h.trans e.symm) (nx z hz)
          · rintro ⟨z, hz, h⟩; exact absurd (h.trans e.symm) (ny z hz)
        · simpa [e] using this
      · have := hc a
        simp only [cntOf] at this
        omega
theorem addS_has (l : List S32) (a n b : Int) : hasA (addS l a n) b ↔ a = b ∨ hasA l b := by
  induction l with
  | nil => simp [addS, hasA]
  | cons y ys ih =>
    unfold addS
    split
    · rw [hasA_cons, ih, hasA_cons]
      constructor
      · rintro (h | h | h) <;> simp [h]
      · rintro (h | h | h) <;> simp [h]
    · split
      · rename_i h1 h2
        rw [hasA_cons, hasA_cons]
        simp [h2]
      · rw [hasA_cons]
theorem addS_cnt {l : List S32} {a n N : Int} (hr : Ris l) (h : Cn l N) (hn : 1 ≤ n) (hN : N + n ≤ 9000000000000000000) (b : Int) : cntOf (addS l a n) b = cntOf l b + if a = b then n else 0 := by
  induction l with
  | nil => simp only [addS, cntOf]; omega
  | cons y ys ih =>
    unfold Ris at hr
    rw [List.pairwise_cons] at hr
    have hy := h y (by simp)
    have hys : Cn ys N := fun x hx => h x (List.mem_cons_of_mem _ hx)
    unfold addS
    split
    · simp only [cntOf]; rw [ih hr.2 hys]; omega
    · split
      · rename_i h1 h2
        simp only [cntOf]
        rw [wrap_id (by omega) (by omega), h2]
        split <;> omega
      · simp only [cntOf]; omega
/-- Samples added one behind the other. -/
def mergeL (o t : List S32) : List S32 := t.foldl (fun o s => addS o s.f0 s.f1) o
theorem mergeL_cons (o : List S32) (s : S32) (t : List S32) : mergeL o (s :: t) = mergeL (addS o s.f0 s.f1) t := rfl
theorem mergeL_nil (o : List S32) : mergeL o [] = o := rfl
theorem mergeL_append (o s t : List S32) : mergeL o (s ++ t) = mergeL (mergeL o s) t := by simp [mergeL, List.foldl_append]
def InR (l : List S32) : Prop := ∀ x ∈ l, 0 ≤ x.f0 ∧ x.f0 ≤ 1048576
theorem mergeL_facts (M : Int) (hM : 1 ≤ M) : ∀ (t o : List S32) (N : Int), Srt o → Cn o N → InR t → Cn t M → 0 ≤ N → N + t.length * M ≤ 9000000000000000000 →
    Srt (mergeL o t) ∧ Cn (mergeL o t) (N + t.length * M) ∧ (∀ a, cntOf (mergeL o t) a = cntOf o a + cntOf t a) ∧ (∀ a, hasA (mergeL o t) a ↔ hasA o a ∨ hasA t a) ∧ (mergeL o t).length ≤ o.length + t.length := by
  intro t
  induction t with
  | nil => intro o N hs hc _ _ _ _; exact ⟨hs, by simpa [mergeL_nil] using hc, fun a => by simp [mergeL_nil, cntOf], fun a => by simp [mergeL_nil, hasA], by simp [mergeL_nil]⟩
  | cons s t ih =>
    intro o N hs hc hr hM' h0 hb
    have hs1 := hM' s (by simp)
    have hr1 := hr s (by simp)
    have hlen : ((s :: t).length : Int) * M = M + t.length * M := by simp only [List.length_cons]; push_cast; rw [Int.add_mul]; omega
    rw [hlen] at hb ⊢
    have hnn : 0 ≤ (t.length : Int) * M := Int.mul_nonneg (by omega) (by omega)
    have hc' : Cn (addS o s.f0 s.f1) (N + M) := (addS_cn hc hs1.1 h0 (by omega)).mono (by omega)
    obtain ⟨p1, p2, p3, p4, p5⟩ := ih (addS o s.f0 s.f1) (N + M) (addS_srt hs hr1.1 hr1.2) hc' (fun x hx => hr x (List.mem_cons_of_mem _ hx)) (fun x hx => hM' x (List.mem_cons_of_mem _ hx)) (by omega) (by omega)
    rw [mergeL_cons]
    refine ⟨p1, p2.mono (by omega), fun a => ?_, fun a => ?_, ?_⟩
    · rw [p3, addS_cnt hs.2 hc hs1.1 (by omega)]; simp only [cntOf]; omega
    · rw [p4, addS_has, hasA_cons]
      constructor
      · rintro ((h | h) | h) <;> simp [h]
      · rintro (h | h | h) <;> simp [h]
    · have := addS_len o s.f0 s.f1; simp only [List.length_cons]; omega
/-! #### Validate and ProfileFault -/
/-- The fault of a profile: from element i on, behind an element at address p. -/
def vfL : List S32 → Int → Option Int → Int × Int
  | [], _, _ => (0, 0)
  | x :: xs, i, p => if x.f0 < 0 ∨ x.f0 > 1048575 ∨ x.f1 < 1 ∨ x.f1 > 1000000 then (3, i) else
      match p with
      | none => vfL xs (i + 1) (some x.f0)
      | some q => if x.f0 ≤ q then (5, i) else vfL xs (i + 1) (some x.f0)
def vf (l : List S32) : Int × Int := if (l.length : Int) > 200 then (2, -1) else vfL l 0 none
def prevA (l : List S32) (m : Nat) : Option Int := if m = 0 then none else some (rd_T32 l ((m - 1 : Nat) : Int)).f0
theorem prevA_succ (l : List S32) (m : Nat) (e : S32) (h : rd_T32 l (m : Int) = e) : prevA l (m + 1) = some e.f0 := by
  unfold prevA; rw [if_neg (by omega), Nat.add_sub_cancel, h]
theorem validate_l0 (l : List S32) (hl : l.length ≤ 200) : ∀ (es : List S32) (m : Nat), l.drop m = es → m ≤ l.length → Ev (fun k => sampling_Validate.l0 k l l (l.length : Int) m) (vfL es m (prevA l m)) := by
  intro es
  induction es with
  | nil =>
    intro m hd hm
    have hml : l.length ≤ m := by
      rcases Nat.lt_or_ge m l.length with h | h
      · rw [List.drop_eq_getElem_cons h] at hd; cases hd
      · exact h
    refine Ev.step (f := fun _ => some (0, 0)) (fun k => ?_) (Ev.now _)
    simp only [sampling_Validate.l0]
    rw [if_neg (by omega)]
  | cons e es ih =>
    intro m hd hm
    obtain ⟨hrd, hml, hd'⟩ := rd32 l m e es hd
    have hw : wrap64 ((m : Int) + 1) = ((m + 1 : Nat) : Int) := by rw [wrap_id (by omega) (by omega)]; rfl
    have hm1 : ((m : Int) + 1) = ((m + 1 : Nat) : Int) := rfl
    by_cases hbad : e.f0 < 0 ∨ e.f0 > 1048575 ∨ e.f1 < 1 ∨ e.f1 > 1000000
    · refine Ev.step (f := fun k => sampling_Validate.j1 k l m l (l.length : Int) m true e.f0 e.f1) (fun k => ?_) ?_
      · simp only [sampling_Validate.l0]
        rw [if_pos (by omega), if_pos (by omega), if_pos (by omega), hrd]
        split
        · rfl
        · split
          · rfl
          · split
            · rfl
            · rw [decide_eq_true (by omega)]
      · refine Ev.step (f := fun _ => some (vfL (e :: es) m (prevA l m))) (fun k => ?_) (Ev.now _)
        simp only [sampling_Validate.j1, vfL]
        rw [if_pos trivial, if_pos hbad]
    · refine Ev.step (f := fun k => sampling_Validate.j1 k l m l (l.length : Int) m false e.f0 e.f1) (fun k => ?_) ?_
      · simp only [sampling_Validate.l0]
        rw [if_pos (by omega), if_pos (by omega), if_pos (by omega), hrd, if_neg (by omega), if_neg (by omega), if_neg (by omega), decide_eq_false (by omega)]
      · have hnext := ih (m + 1) hd' (by omega)
        rw [prevA_succ l m e hrd] at hnext
        by_cases h0 : m = 0
        · subst h0
          refine Ev.step (f := fun k => sampling_Validate.l0 k l l (l.length : Int) ((0 + 1 : Nat) : Int)) (fun k => ?_) ?_
          · simp only [sampling_Validate.j1]
            rw [if_neg (by simp), if_neg (by omega), hw]
          · simp only [vfL, prevA]
            rw [if_neg hbad]
            exact hnext
        · have hp : prevA l m = some (rd_T32 l ((m - 1 : Nat) : Int)).f0 := by unfold prevA; rw [if_neg h0]
          have hwm : wrap64 ((m : Int) - 1) = ((m - 1 : Nat) : Int) := by rw [wrap_id (by omega) (by omega)]; omega
          by_cases h5 : e.f0 ≤ (rd_T32 l ((m - 1 : Nat) : Int)).f0
          · refine Ev.step (f := fun _ => some (vfL (e :: es) m (prevA l m))) (fun k => ?_) (Ev.now _)
            simp only [sampling_Validate.j1, vfL, hp]
            rw [if_neg (by simp), if_pos (by omega), hwm, if_pos (by omega), if_pos (by omega), if_pos h5, if_neg hbad, if_pos h5]
          · refine Ev.step (f := fun k => sampling_Validate.l0 k l l (l.length : Int) ((m + 1 : Nat) : Int)) (fun k => ?_) ?_
            · simp only [sampling_Validate.j1]
              rw [if_neg (by simp), if_pos (by omega), hwm, if_pos (by omega), if_pos (by omega), if_neg h5, hw]
            · simp only [vfL, hp]
              rw [if_neg hbad, if_neg h5]
              exact hnext
theorem validate_ev (l : List S32) : Ev (fun k => sampling_Validate.f k l) (vf l) := by
  unfold vf
  by_cases h1 : (l.length : Int) > 200
  · refine Ev.congr (f := fun _ => some (2, -1)) (fun k => ?_) (by rw [if_pos h1]; exact Ev.now _)
    simp only [sampling_Validate.f]
    rw [if_pos h1]
  · rw [if_neg h1]
    refine Ev.congr (f := fun k => sampling_Validate.l0 k l l (l.length : Int) ((0 : Nat) : Int)) (fun k => ?_) (validate_l0 l (by omega) l 0 rfl (by omega))
    simp only [sampling_Validate.f]
    rw [if_neg h1]
    rfl
theorem pfault_l0 (l : List S32) (hl : l.length ≤ 200) : ∀ (es : List S32) (m : Nat), l.drop m = es → m ≤ l.length → Ev (fun k => linkhouseref8_ProfileFault.l0 k l m) (vfL es m (prevA l m)) := by
  intro es
  induction es with
  | nil =>
    intro m hd hm
    have hml : l.length ≤ m := by
      rcases Nat.lt_or_ge m l.length with h | h
      · rw [List.drop_eq_getElem_cons h] at hd; cases hd
      · exact h
    refine Ev.step (f := fun _ => some (0, 0)) (fun k => ?_) (Ev.now _)
    simp only [linkhouseref8_ProfileFault.l0]
    rw [if_neg (by omega)]
  | cons e es ih =>
    intro m hd hm
    obtain ⟨hrd, hml, hd'⟩ := rd32 l m e es hd
    have hw : wrap64 ((m : Int) + 1) = ((m + 1 : Nat) : Int) := by rw [wrap_id (by omega) (by omega)]; rfl
    by_cases hbad : e.f0 < 0 ∨ e.f0 > 1048575 ∨ e.f1 < 1 ∨ e.f1 > 1000000
    · refine Ev.step (f := fun k => linkhouseref8_ProfileFault.j1 k l m true) (fun k => ?_) ?_
      · simp only [linkhouseref8_ProfileFault.l0, linkhouseref7_In.f]
        rw [if_pos (by omega), if_pos (by omega), hrd]
        by_cases a1 : 0 ≤ e.f0
        · rw [if_pos a1]
          by_cases a2 : e.f0 ≤ 1048575
          · simp only [Option.bind_some, decide_eq_true a2, if_true]
            by_cases a3 : 1 ≤ e.f1
            · rw [if_pos a3]; simp only [Option.bind_some]; rw [decide_eq_false (by omega)]; rfl
            · rw [if_neg a3]; rfl
          · simp only [Option.bind_some, decide_eq_false a2]; rfl
        · rw [if_neg a1]; rfl
      · refine Ev.step (f := fun _ => some (vfL (e :: es) m (prevA l m))) (fun k => ?_) (Ev.now _)
        simp only [linkhouseref8_ProfileFault.j1, linkhouseref7_At.f, vfL]
        rw [if_pos trivial, if_pos hbad]; rfl
    · refine Ev.step (f := fun k => linkhouseref8_ProfileFault.j1 k l m false) (fun k => ?_) ?_
      · simp only [linkhouseref8_ProfileFault.l0, linkhouseref7_In.f]
        rw [if_pos (by omega), if_pos (by omega), hrd, if_pos (by omega)]
        simp only [Option.bind_some]
        rw [decide_eq_true (by omega), if_pos rfl, if_pos (by omega)]
        simp only [Option.bind_some]
        rw [decide_eq_true (by omega)]; rfl
      · have hnext := ih (m + 1) hd' (by omega)
        rw [prevA_succ l m e hrd] at hnext
        by_cases h0 : m = 0
        · subst h0
          refine Ev.step (f := fun k => linkhouseref8_ProfileFault.l0 k l ((0 + 1 : Nat) : Int)) (fun k => ?_) ?_
          · simp only [linkhouseref8_ProfileFault.j1]
            rw [if_neg (by simp), if_neg (by omega), hw]
          · simp only [vfL, prevA]
            rw [if_neg hbad]
            exact hnext
        · have hp : prevA l m = some (rd_T32 l ((m - 1 : Nat) : Int)).f0 := by unfold prevA; rw [if_neg h0]
          have hwm : wrap64 ((m : Int) - 1) = ((m - 1 : Nat) : Int) := by rw [wrap_id (by omega) (by omega)]; omega
          by_cases h5 : e.f0 ≤ (rd_T32 l ((m - 1 : Nat) : Int)).f0
          · refine Ev.step (f := fun _ => some (vfL (e :: es) m (prevA l m))) (fun k => ?_) (Ev.now _)
            simp only [linkhouseref8_ProfileFault.j1, linkhouseref7_At.f, vfL, hp]
            rw [if_neg (by simp), if_pos (by omega), if_pos (by omega), if_pos (by omega), hwm, if_pos (by omega), if_pos (by omega), hrd, if_pos h5, if_neg hbad, if_pos h5]; rfl
          · refine Ev.step (f := fun k => linkhouseref8_ProfileFault.l0 k l ((m + 1 : Nat) : Int)) (fun k => ?_) ?_
            · simp only [linkhouseref8_ProfileFault.j1]
              rw [if_neg (by simp), if_pos (by omega), if_pos (by omega), if_pos (by omega), hwm, if_pos (by omega), if_pos (by omega), hrd, if_neg h5, hw]
            · simp only [vfL, hp]
              rw [if_neg hbad, if_neg h5]
              exact hnext
theorem pfault_ev (l : List S32) : Ev (fun k => linkhouseref8_ProfileFault.f k l) (vf l) := by
  unfold vf
  by_cases h1 : (l.length : Int) > 200
  · refine Ev.congr (f := fun _ => some (2, -1)) (fun k => ?_) (by rw [if_pos h1]; exact Ev.now _)
    simp only [linkhouseref8_ProfileFault.f]
    rw [if_pos h1]; rfl
  · rw [if_neg h1]
    refine Ev.congr (f := fun k => linkhouseref8_ProfileFault.l0 k l ((0 : Nat) : Int)) (fun k => ?_) (pfault_l0 l (by omega) l 0 rfl (by omega))
    simp only [linkhouseref8_ProfileFault.f]
    rw [if_neg h1]
    rfl
/-- A profile without a fault. -/
structure GoodP (l : List S32) : Prop where
  len : l.length ≤ 200
  rng : ∀ x ∈ l, (0 ≤ x.f0 ∧ x.f0 ≤ 1048575) ∧ 1 ≤ x.f1 ∧ x.f1 ≤ 1000000
  ris : Ris l
theorem vfL_ok : ∀ (es : List S32) (i : Int) (p : Option Int), vfL es i p = (0, 0) ↔ (∀ x ∈ es, (0 ≤ x.f0 ∧ x.f0 ≤ 1048575) ∧ 1 ≤ x.f1 ∧ x.f1 ≤ 1000000) ∧ Ris es ∧ (∀ q, p = some q → ∀ x ∈ es, q < x.f0) := by
  intro es
  induction es with
  | nil => intro i p; simp [vfL, Ris]
  | cons e es ih =>
    intro i p
    have key : ∀ j, vfL es j (some e.f0) = (0, 0) ↔ (∀ x ∈ es, (0 ≤ x.f0 ∧ x.f0 ≤ 1048575) ∧ 1 ≤ x.f1 ∧ x.f1 ≤ 1000000) ∧ Ris es ∧ ∀ x ∈ es, e.f0 < x.f0 := by
      intro j
      rw [ih]
      constructor
      · rintro ⟨a, b, c⟩; exact ⟨a, b, c _ rfl⟩
      · rintro ⟨a, b, c⟩; exact ⟨a, b, fun q hq => by injection hq with hq; rw [← hq]; exact c⟩
    simp only [vfL]
    by_cases hbad : e.f0 < 0 ∨ e.f0 > 1048575 ∨ e.f1 < 1 ∨ e.f1 > 1000000
    · rw [if_pos hbad]
      constructor
      · intro h; simp at h
      · rintro ⟨a, _, _⟩; have := a e (by simp); omega
    · rw [if_neg hbad]
      have hres : (∀ x ∈ e :: es, (0 ≤ x.f0 ∧ x.f0 ≤ 1048575) ∧ 1 ≤ x.f1 ∧ x.f1 ≤ 1000000) ∧ Ris (e :: es) ↔ (∀ x ∈ es, (0 ≤ x.f0 ∧ x.f0 ≤ 1048575) ∧ 1 ≤ x.f1 ∧ x.f1 ≤ 1000000) ∧ Ris es ∧ ∀ x ∈ es, e.f0 < x.f0 := by
        unfold Ris
        rw [List.pairwise_cons]
        constructor
        · rintro ⟨a, b, c⟩; exact ⟨fun x hx => a x (List.mem_cons_of_mem _ hx), c, b⟩
        · rintro ⟨a, b, c⟩
          refine ⟨fun x hx => ?_, c, b⟩
          rcases List.mem_cons.1 hx with rfl | hx
          · omega
          · exact a x hx
      cases p with
      | none =>
        simp only []
        rw [key, ← hres]
        constructor
        · rintro ⟨a, b⟩; exact ⟨a, b, fun q hq => by cases hq⟩
        · rintro ⟨a, b, _⟩; exact ⟨a, b⟩
      | some q =>
        simp only []
        by_cases h5 : e.f0 ≤ q
        · rw [if_pos h5]
          constructor
          · intro h; simp at h
          · rintro ⟨_, _, c⟩; have := c q rfl e (by simp); omega
        · rw [if_neg h5, key, ← hres]
          constructor
          · rintro ⟨a, b⟩
            refine ⟨a, b, fun q' hq' x hx => ?_⟩
            injection hq' with hq'
            rcases List.mem_cons.1 hx with rfl | hx
            · omega
            · have := (hres.1 ⟨a, b⟩).2.2 x hx; omega
          · rintro ⟨a, b, _⟩; exact ⟨a, b⟩
theorem vfL_code : ∀ (es : List S32) (i : Int) (p : Option Int), (vfL es i p).1 = 0 → vfL es i p = (0, 0) := by
  intro es
  induction es with
  | nil => intro i p _; rfl
  | cons e es ih =>
    intro i p h
    simp only [vfL] at h ⊢
    by_cases hbad : e.f0 < 0 ∨ e.f0 > 1048575 ∨ e.f1 < 1 ∨ e.f1 > 1000000
    · rw [if_pos hbad] at h; simp at h
    · rw [if_neg hbad] at h ⊢
      cases p with
      | none => exact ih _ _ h
      | some q =>
        simp only [] at h ⊢
        by_cases h5 : e.f0 ≤ q
        · rw [if_pos h5] at h; simp at h
        · rw [if_neg h5] at h ⊢; exact ih _ _ h
theorem vf_code {l : List S32} (h : (vf l).1 = 0) : vf l = (0, 0) := by
  unfold vf at h ⊢
  split at h
  · simp at h
  · rw [if_neg ‹_›]; exact vfL_code _ _ _ h
theorem vf_good (l : List S32) : vf l = (0, 0) ↔ GoodP l := by
  unfold vf
  constructor
  · intro h
    split at h
    · simp at h
    · obtain ⟨a, b, _⟩ := (vfL_ok _ _ _).1 h
      exact ⟨by omega, a, b⟩
  · rintro ⟨a, b, c⟩
    rw [if_neg (by omega), vfL_ok]
    exact ⟨b, c, fun q hq => by cases hq⟩
theorem GoodP.srt {l : List S32} (h : GoodP l) : Srt l := ⟨fun x hx => by have := h.rng x hx; omega, h.ris⟩
theorem GoodP.cn {l : List S32} (h : GoodP l) : Cn l 1000000 := fun x hx => (h.rng x hx).2
theorem GoodP.inr {l : List S32} (h : GoodP l) : InR l := fun x hx => by have := h.rng x hx; omega
/-- What Merge comes to. -/
def mergeS (a b : List S32) : List S32 × Int × Int :=
  if vf a ≠ (0, 0) then ([], (vf a).1, (vf a).2) else if vf b ≠ (0, 0) then ([], (vf b).1, -2) else if vf (mergeL a b) ≠ (0, 0) then ([], 10, -3) else (mergeL a b, 0, 0)
theorem nz_iff (p : Int × Int) : ((!(p.1 == 0) || (!(p.2 == 0))) = true) ↔ p ≠ (0, 0) := by
  obtain ⟨a, b⟩ := p
  simp only [Bool.or_eq_true, Bool.not_eq_true', beq_eq_false_iff_ne, ne_eq, Prod.mk.injEq]
  by_cases h : a = 0 <;> simp [h]
theorem merge_l0 (b : List S32) (hb : GoodP b) : ∀ (es : List S32) (m : Nat) (o : List S32), b.drop m = es → m ≤ b.length → Srt o → o.length ≤ 200 + m →
    Ev (fun k => sampling_Merge.l0 k o b (b.length : Int) m) (if vf (mergeL o es) ≠ (0, 0) then ([], 10, -3) else (mergeL o es, 0, 0)) := by
  intro es
  induction es with
  | nil =>
    intro m o hd hm hs ho
    have hml : b.length ≤ m := by
      rcases Nat.lt_or_ge m b.length with h | h
      · rw [List.drop_eq_getElem_cons h] at hd; cases hd
      · exact h
    refine Ev.step (f := fun k => (sampling_Validate.f k o).bind fun bt => (if (!(bt.1 == 0) || (!(bt.2 == 0))) = true then (some (([] : List S32), 10, (-3))) else (some (o, 0, 0)))) (fun k => ?_) ?_
    · simp only [sampling_Merge.l0]
      rw [if_neg (by omega)]
    · refine Ev.bind (validate_ev o) ?_
      rw [mergeL_nil]
      by_cases h : vf o ≠ (0, 0)
      · rw [if_pos h]; simp only [(nz_iff (vf o)).2 h, if_true]; exact Ev.now _
      · rw [if_neg h]
        have h' : ¬ ((!((vf o).1 == 0) || (!((vf o).2 == 0))) = true) := fun e => h ((nz_iff _).1 e)
        simp only [if_neg h']; exact Ev.now _
  | cons e es ih =>
    intro m o hd hm hs ho
    obtain ⟨hrd, hml, hd'⟩ := rd32 b m e es hd
    have he := hb.rng e (by rw [show e = b[m] from by rw [← hrd]; simp [rd_T32, hml]]; exact List.getElem_mem hml)
    have hbl := hb.len
    have hw : wrap64 ((m : Int) + 1) = ((m + 1 : Nat) : Int) := by rw [wrap_id (by omega) (by omega)]; rfl
    rw [mergeL_cons]
    refine Ev.step (f := fun k => sampling_Merge.l0 k (addS o e.f0 e.f1) b (b.length : Int) ((m + 1 : Nat) : Int)) (fun k => ?_) (ih (m + 1) _ hd' (by omega) (addS_srt hs (by omega) (by omega)) (by have := addS_len o e.f0 e.f1; omega))
    simp only [sampling_Merge.l0]
    rw [if_pos (by omega), if_pos (by omega), if_pos (by omega), hrd, add_f hs (by omega) (by omega) (by omega), hw]
    rfl
theorem merge_ev (a b : List S32) : Ev (fun k => sampling_Merge.f k a b) (mergeS a b) := by
  unfold mergeS sampling_Merge.f
  refine Ev.bind (validate_ev a) ?_
  by_cases h : vf a ≠ (0, 0)
  · rw [if_pos h]; simp only [(nz_iff (vf a)).2 h, if_true]; exact Ev.now _
  · rw [if_neg h]
    have h' : ¬ ((!((vf a).1 == 0) || (!((vf a).2 == 0))) = true) := fun e => h ((nz_iff _).1 e)
    simp only [if_neg h']
    refine Ev.bind (validate_ev b) ?_
    by_cases h2 : vf b ≠ (0, 0)
    · rw [if_pos h2]; simp only [(nz_iff (vf b)).2 h2, if_true]; exact Ev.now _
    · rw [if_neg h2]
      have h2' : ¬ ((!((vf b).1 == 0) || (!((vf b).2 == 0))) = true) := fun e => h2 ((nz_iff _).1 e)
      simp only [if_neg h2']
      have ga := (vf_good a).1 (by simpa using h)
      have gb := (vf_good b).1 (by simpa using h2)
      have hal := ga.len
      have hcl : api_Sample.f a = some a := by unfold api_Sample.f; rw [if_pos (by omega)]
      simp only [hcl, Option.bind_some]
      exact merge_l0 b gb b 0 a rfl (by omega) ga.srt (by omega)
theorem same_l0 (l : List S32) (hl : l.length ≤ 9000000000000000000) : ∀ (es : List S32) (m : Nat), l.drop m = es → m ≤ l.length → Ev (fun k => linkhouseref8_SameProfile.l0 k l l m) true := by
  intro es
  induction es with
  | nil =>
    intro m hd hm
    have hml : l.length ≤ m := by
      rcases Nat.lt_or_ge m l.length with h | h
      · rw [List.drop_eq_getElem_cons h] at hd; cases hd
      · exact h
    refine Ev.step (f := fun _ => some true) (fun k => ?_) (Ev.now _)
    simp only [linkhouseref8_SameProfile.l0]
    rw [if_neg (by omega)]
  | cons e es ih =>
    intro m hd hm
    obtain ⟨hrd, hml, hd'⟩ := rd32 l m e es hd
    refine Ev.step (f := fun k => linkhouseref8_SameProfile.l0 k l l ((m + 1 : Nat) : Int)) (fun k => ?_) (ih (m + 1) hd' (by omega))
    simp only [linkhouseref8_SameProfile.l0]
    rw [if_pos (by omega), if_pos (by omega), if_pos (by omega), if_neg (by simp), wrap_id (by omega) (by omega)]
    rfl
theorem same_ev (l : List S32) (hl : l.length ≤ 9000000000000000000) : Ev (fun k => linkhouseref8_SameProfile.f k l l) true := by
  refine Ev.congr (f := fun k => linkhouseref8_SameProfile.l0 k l l ((0 : Nat) : Int)) (fun k => ?_) (same_l0 l hl l 0 rfl (by omega))
  simp only [linkhouseref8_SameProfile.f]
  rw [if_pos trivial]
  rfl
/-- The samples that a Take takes. -/
def smp (every : Int) : List S30 → Int → List S32
  | [], _ => []
  | e :: es, n => if e.f1 = -1 then smp every es n else if (n + 1) % every = 0 then ⟨e.f1, 1⟩ :: smp every es (n + 1) else smp every es (n + 1)
theorem smp_append (every : Int) : ∀ (xs ys : List S30) (n : Int), smp every (xs ++ ys) n = smp every xs n ++ smp every ys (n + cntE xs) := by
  intro xs
  induction xs with
  | nil => intro ys n; simp [smp, cntE]
  | cons e es ih =>
    intro ys n
    simp only [List.cons_append, smp, cntE]
    by_cases h : e.f1 = -1
    · rw [if_pos h, if_pos h, if_pos h, ih]
    · rw [if_neg h, if_neg h, if_neg h, ih, show n + (1 + cntE es) = n + 1 + cntE es from by omega]
      split <;> simp
theorem smp_one (es : List S30) : ∀ (n m : Int), smp 1 es n = smp 1 es m := by
  induction es with
  | nil => intro n m; rfl
  | cons e es ih =>
    intro n m
    simp only [smp]
    rw [if_pos (Int.emod_one _), if_pos (Int.emod_one _), ih n m, ih (n + 1) (m + 1)]
theorem smp_len (every : Int) : ∀ (es : List S30) (n : Int), (smp every es n).length ≤ es.length := by
  intro es
  induction es with
  | nil => intro n; simp [smp]
  | cons e es ih =>
    intro n
    simp only [smp]
    have h1 := ih n
    have h2 := ih (n + 1)
    split
    · simp; omega
    · split <;> simp <;> omega
theorem smp_mem (every : Int) : ∀ (es : List S30) (n : Int), ∀ x ∈ smp every es n, x.f1 = 1 ∧ ∃ e ∈ es, e.f1 ≠ -1 ∧ x.f0 = e.f1 := by
  intro es
  induction es with
  | nil => intro n x hx; simp [smp] at hx
  | cons e es ih =>
    intro n x hx
    simp only [smp] at hx
    split at hx
    · obtain ⟨a, y, hy, b⟩ := ih _ x hx; exact ⟨a, y, List.mem_cons_of_mem _ hy, b⟩
    · split at hx
      · rcases List.mem_cons.1 hx with rfl | hx
        · exact ⟨rfl, e, by simp, ‹_›, rfl⟩
        · obtain ⟨a, y, hy, b⟩ := ih _ x hx; exact ⟨a, y, List.mem_cons_of_mem _ hy, b⟩
      · obtain ⟨a, y, hy, b⟩ := ih _ x hx; exact ⟨a, y, List.mem_cons_of_mem _ hy, b⟩
def endS (m : List S32) : List S32 × Int × Int := if (m.length : Int) > 200 then ([], 10, -3) else (m, 0, 0)
theorem takeL_eq (every : Int) : ∀ (es : List S30) (i : Int) (out : List S32) (n : Int), (∀ e ∈ es, -1 ≤ e.f1 ∧ e.f1 < 1048576) →
    takeL every es i out n = endS (mergeL out (smp every es n)) := by
  intro es
  induction es with
  | nil => intro i out n _; rfl
  | cons e es ih =>
    intro i out n h
    have he := h e (by simp)
    have hes : ∀ e ∈ es, -1 ≤ e.f1 ∧ e.f1 < 1048576 := fun x hx => h x (List.mem_cons_of_mem _ hx)
    by_cases h1 : e.f1 = -1
    · have e1 : smp every (e :: es) n = smp every es n := by simp only [smp]; rw [if_pos h1]
      have e2 : takeL every (e :: es) i out n = takeL every es (i + 1) out n := by simp only [takeL]; rw [if_neg (by omega), if_pos h1]
      rw [e1, e2]; exact ih _ _ _ hes
    · by_cases h2 : (n + 1) % every = 0
      · have e1 : smp every (e :: es) n = ⟨e.f1, 1⟩ :: smp every es (n + 1) := by simp only [smp]; rw [if_neg h1, if_pos h2]
        have e2 : takeL every (e :: es) i out n = takeL every es (i + 1) (addS out e.f1 1) (n + 1) := by simp only [takeL]; rw [if_neg (by omega), if_neg h1, if_pos h2]
        rw [e1, e2, mergeL_cons]; exact ih _ _ _ hes
      · have e1 : smp every (e :: es) n = smp every es (n + 1) := by simp only [smp]; rw [if_neg h1, if_neg h2]
        have e2 : takeL every (e :: es) i out n = takeL every es (i + 1) out (n + 1) := by simp only [takeL]; rw [if_neg (by omega), if_neg h1, if_neg h2]
        rw [e1, e2]; exact ih _ _ _ hes
/-- What is known of a Take's samples. -/
theorem smp_facts {es : List S30} (every : Int) (n : Int) (h : ∀ e ∈ es, -1 ≤ e.f1 ∧ e.f1 < 1048576) (hl : es.length ≤ 10000) :
    Srt (mergeL [] (smp every es n)) ∧ Cn (mergeL [] (smp every es n)) 10000 ∧ (∀ a, cntOf (mergeL [] (smp every es n)) a = cntOf (smp every es n) a) ∧ (∀ a, hasA (mergeL [] (smp every es n)) a ↔ hasA (smp every es n) a) ∧ (∀ x ∈ mergeL [] (smp every es n), 0 ≤ x.f0 ∧ x.f0 ≤ 1048575) := by
  have hlen := smp_len every es n
  have hr : InR (smp every es n) := fun x hx => by
    obtain ⟨_, e, he, h1, h2⟩ := smp_mem every es n x hx
    have := h e he; omega
  obtain ⟨p1, p2, p3, p4, p5⟩ := mergeL_facts 1 (by omega) (smp every es n) [] 0 srt_nil (fun x hx => by simp at hx) hr (fun x hx => by rw [(smp_mem every es n x hx).1]; omega) (by omega) (by omega)
  refine ⟨p1, p2.mono (by omega), fun a => by rw [p3]; simp [cntOf], fun a => by rw [p4]; simp [hasA], fun x hx => ?_⟩
  obtain ⟨y, hy, e⟩ := (p4 x.f0).1 ⟨x, hx, rfl⟩ |>.resolve_left (by rintro ⟨z, hz, _⟩; simp at hz)
  obtain ⟨_, ev, hev, h1, h2⟩ := smp_mem every es n y hy
  have := h ev hev; omega
theorem ris_len : ∀ (s r : List S32), Ris r → Ris s → (∀ a, hasA r a → hasA s a) → r.length ≤ s.length := by
  intro s
  induction s with
  | nil =>
    intro r _ _ h
    cases r with
    | nil => simp
    | cons x xs => obtain ⟨y, hy, _⟩ := h x.f0 ⟨x, by simp, rfl⟩; simp at hy
  | cons y ys ih =>
    intro r hr hs h
    unfold Ris at hr hs
    rw [List.pairwise_cons] at hs
    cases r with
    | nil => simp
    | cons x xs =>
      rw [List.pairwise_cons] at hr
      have hx := (hasA_cons _ _ _).1 (h x.f0 ⟨x, by simp, rfl⟩)
      have hge : y.f0 ≤ x.f0 := by
        rcases hx with hx | ⟨z, hz, hx⟩
        · omega
        · have := hs.1 z hz; omega
      have hsub : ∀ a, hasA xs a → hasA ys a := by
        rintro a ⟨z, hz, e⟩
        have h1 := hr.1 z hz
        rcases (hasA_cons _ _ _).1 (h a ⟨z, List.mem_cons_of_mem _ hz, e⟩) with h2 | h2
        · omega
        · exact h2
      have := ih xs hr.2 hs.2 hsub
      simp only [List.length_cons]; omega
end Go.Proofs.Ytjchmckbhfoopaa.PS
