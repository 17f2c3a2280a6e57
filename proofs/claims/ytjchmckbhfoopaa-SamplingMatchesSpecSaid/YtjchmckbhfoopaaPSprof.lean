/- What the reference's Insert, CountOf and Profile come to, over lists. Conditions: counts whose sum does not wrap. -/
import Derived.Test.YtjchmckbhfoopaaPSmerge
import Derived.Test.YtjchmckbhfoopaaPSx9
import Derived.Test.YtjchmckbhfoopaaPSx10
import Derived.Test.YtjchmckbhfoopaaPSx11
namespace Go.Proofs.Ytjchmckbhfoopaa.PS
open Go.RowKit Go.Proofs.YtjchmckbhfoopaaW.PrintWords Go.Proofs.YtjchmckbhfoopaaW.PrintLast Go.Proofs.YtjchmckbhfoopaaW.PrintMore
set_option linter.unusedVariables false
set_option linter.unusedSimpArgs false
theorem rdI (l : List Int) (m : Nat) (e : Int) (es : List Int) (h : l.drop m = e :: es) : rd l (m : Int) = e ∧ m < l.length ∧ l.drop (m + 1) = es := by
  have hm : m < l.length := by
    rcases Nat.lt_or_ge m l.length with h1 | h1
    · exact h1
    · rw [List.drop_of_length_le h1] at h; cases h
  rw [List.drop_eq_getElem_cons hm] at h
  injection h with h1 h2
  exact ⟨by simp [rd, hm, h1], hm, h2⟩
theorem drop_nil_le {α : Type} {l : List α} {m : Nat} (h : l.drop m = []) : l.length ≤ m := by
  rcases Nat.lt_or_ge m l.length with h1 | h1
  · rw [List.drop_eq_getElem_cons h1] at h; cases h
  · exact h1
/-- A number put into a rising list of numbers, once. -/
def insI : List Int → Int → List Int
  | [], a => [a]
  | y :: ys, a => if a ≤ y then a :: (y :: ys).filter (fun z => decide (z ≠ a)) else y :: insI ys a
theorem ins_placed (L : List Int) (a : Int) (hl : L.length ≤ 100000) : ∀ (es : List Int) (m : Nat) (out : List Int), L.drop m = es → m ≤ L.length → out.length ≤ m + 1 →
    Ev (fun k => linkhouseref7_Insert.l0 k L a out true m) (out ++ es.filter (fun z => decide (z ≠ a))) := by
  intro es
  induction es with
  | nil =>
    intro m out hd hm ho
    have hml := drop_nil_le hd
    refine Ev.step (f := fun _ => some out) (fun k => ?_) (by simpa using Ev.now out)
    simp only [linkhouseref7_Insert.l0]
    rw [if_neg (by omega), if_pos trivial]
  | cons e es ih =>
    intro m out hd hm ho
    obtain ⟨hrd, hml, hd'⟩ := rdI L m e es hd
    have hw : wrap64 ((m : Int) + 1) = ((m + 1 : Nat) : Int) := by rw [wrap_id (by omega) (by omega)]; rfl
    refine Ev.step (f := fun k => linkhouseref7_Insert.j1 k L a out true m false) (fun k => ?_) ?_
    · simp only [linkhouseref7_Insert.l0]
      rw [if_pos (by omega), if_pos trivial]
    · by_cases h : e = a
      · refine Ev.step (f := fun k => linkhouseref7_Insert.l0 k L a out true ((m + 1 : Nat) : Int)) (fun k => ?_) ?_
        · simp only [linkhouseref7_Insert.j1]
          rw [if_neg (by simp), if_pos (by omega), if_pos (by omega), hrd, if_pos h, hw]
        · rw [List.filter_cons_of_neg (by simpa using h)]
          exact ih (m + 1) out hd' (by omega) (by omega)
      · refine Ev.step (f := fun k => linkhouseref7_Insert.l0 k L a (out ++ [e]) true ((m + 1 : Nat) : Int)) (fun k => ?_) ?_
        · simp only [linkhouseref7_Insert.j1]
          rw [if_neg (by simp), if_pos (by omega), if_pos (by omega), hrd, if_neg h, if_pos (by omega), hw]
        · rw [List.filter_cons_of_pos (by simpa using h), show out ++ e :: List.filter (fun z => decide (z ≠ a)) es = (out ++ [e]) ++ List.filter (fun z => decide (z ≠ a)) es from by simp]
          exact ih (m + 1) (out ++ [e]) hd' (by omega) (by simp; omega)
theorem ins_l0 (L : List Int) (a : Int) (hl : L.length ≤ 100000) : ∀ (es : List Int) (m : Nat) (out : List Int), L.drop m = es → m ≤ L.length → out.length ≤ m →
    Ev (fun k => linkhouseref7_Insert.l0 k L a out false m) (out ++ insI es a) := by
  intro es
  induction es with
  | nil =>
    intro m out hd hm ho
    have hml := drop_nil_le hd
    refine Ev.step (f := fun _ => some (out ++ [a])) (fun k => ?_) (Ev.now _)
    simp only [linkhouseref7_Insert.l0]
    rw [if_neg (by omega), if_neg (by simp), if_pos (by omega)]
  | cons e es ih =>
    intro m out hd hm ho
    obtain ⟨hrd, hml, hd'⟩ := rdI L m e es hd
    have hw : wrap64 ((m : Int) + 1) = ((m + 1 : Nat) : Int) := by rw [wrap_id (by omega) (by omega)]; rfl
    by_cases hge : a ≤ e
    · refine Ev.step (f := fun k => linkhouseref7_Insert.j1 k L a out false m true) (fun k => ?_) ?_
      · simp only [linkhouseref7_Insert.l0]
        rw [if_pos (by omega), if_neg (by simp), if_pos (by omega), hrd, decide_eq_true (by omega)]
      · simp only [insI]
        rw [if_pos hge]
        by_cases h : e = a
        · refine Ev.step (f := fun k => linkhouseref7_Insert.l0 k L a (out ++ [a]) true ((m + 1 : Nat) : Int)) (fun k => ?_) ?_
          · simp only [linkhouseref7_Insert.j1]
            rw [if_pos trivial, if_pos (by omega)]
            simp only [Option.bind_some]
            rw [if_pos (by omega), if_pos (by omega), hrd, if_pos h, hw]
          · rw [List.filter_cons_of_neg (by simpa using h), show out ++ a :: List.filter (fun z => decide (z ≠ a)) es = (out ++ [a]) ++ List.filter (fun z => decide (z ≠ a)) es from by simp]
            exact ins_placed L a hl es (m + 1) (out ++ [a]) hd' (by omega) (by simp; omega)
        · refine Ev.step (f := fun k => linkhouseref7_Insert.l0 k L a (out ++ [a] ++ [e]) true ((m + 1 : Nat) : Int)) (fun k => ?_) ?_
          · simp only [linkhouseref7_Insert.j1]
            rw [if_pos trivial, if_pos (by omega)]
            simp only [Option.bind_some]
            rw [if_pos (by omega), if_pos (by omega), hrd, if_neg h, if_pos (by simp; omega), hw]
          · rw [List.filter_cons_of_pos (by simpa using h), show out ++ a :: e :: List.filter (fun z => decide (z ≠ a)) es = (out ++ [a] ++ [e]) ++ List.filter (fun z => decide (z ≠ a)) es from by simp]
            exact ins_placed L a hl es (m + 1) (out ++ [a] ++ [e]) hd' (by omega) (by simp; omega)
    · refine Ev.step (f := fun k => linkhouseref7_Insert.j1 k L a out false m false) (fun k => ?_) ?_
      · simp only [linkhouseref7_Insert.l0]
        rw [if_pos (by omega), if_neg (by simp), if_pos (by omega), hrd, decide_eq_false (by omega)]
      · refine Ev.step (f := fun k => linkhouseref7_Insert.l0 k L a (out ++ [e]) false ((m + 1 : Nat) : Int)) (fun k => ?_) ?_
        · simp only [linkhouseref7_Insert.j1]
          rw [if_neg (by simp), if_pos (by omega), if_pos (by omega), hrd, if_neg (by omega), if_pos (by omega), hw]
        · simp only [insI]
          rw [if_neg hge, show out ++ e :: insI es a = (out ++ [e]) ++ insI es a from by simp]
          exact ih (m + 1) (out ++ [e]) hd' (by omega) (by simp; omega)
theorem ins_ev (L : List Int) (a : Int) (hl : L.length ≤ 100000) : Ev (fun k => linkhouseref7_Insert.f k L a) (insI L a) := by
  have := ins_l0 L a hl L 0 [] rfl (by omega) (by simp)
  simpa [linkhouseref7_Insert.f] using this
theorem insI_mem : ∀ (L : List Int) (a b : Int), b ∈ insI L a ↔ b = a ∨ b ∈ L := by
  intro L
  induction L with
  | nil => intro a b; simp [insI]
  | cons y ys ih =>
    intro a b
    simp only [insI]
    split
    · simp only [List.mem_cons, List.mem_filter, decide_eq_true_eq]
      by_cases h : b = a <;> simp [h]
    · simp only [List.mem_cons, ih]
      constructor
      · rintro (h | h | h) <;> simp [h]
      · rintro (h | h | h) <;> simp [h]
theorem insI_ris : ∀ (L : List Int) (a : Int), L.Pairwise (· < ·) → (insI L a).Pairwise (· < ·) := by
  intro L
  induction L with
  | nil => intro a _; simp [insI]
  | cons y ys ih =>
    intro a h
    rw [List.pairwise_cons] at h
    simp only [insI]
    split
    · rename_i hay
      rw [List.pairwise_cons]
      refine ⟨fun b hb => ?_, List.Pairwise.filter _ (List.pairwise_cons.2 h)⟩
      simp only [List.mem_filter, List.mem_cons, decide_eq_true_eq] at hb
      rcases hb with ⟨hb | hb, hne⟩
      · omega
      · have := h.1 b hb; omega
    · rw [List.pairwise_cons]
      refine ⟨fun b hb => ?_, ih a h.2⟩
      rcases (insI_mem ys a b).1 hb with hb | hb
      · omega
      · exact h.1 b hb
theorem insI_len : ∀ (L : List Int) (a : Int), (insI L a).length ≤ L.length + 1 := by
  intro L
  induction L with
  | nil => intro a; simp [insI]
  | cons y ys ih =>
    intro a
    simp only [insI]
    split
    · have := List.length_filter_le (fun z => decide (z ≠ a)) (y :: ys)
      simp only [List.length_cons] at this ⊢; omega
    · have := ih a; simp only [List.length_cons]; omega
def addrsL (A : List Int) (l : List S32) : List Int := l.foldl (fun A x => insI A x.f0) A
theorem addrsL_facts : ∀ (l : List S32) (A : List Int), A.Pairwise (· < ·) → (addrsL A l).Pairwise (· < ·) ∧ (∀ b, b ∈ addrsL A l ↔ b ∈ A ∨ hasA l b) ∧ (addrsL A l).length ≤ A.length + l.length := by
  intro l
  induction l with
  | nil => intro A h; exact ⟨h, fun b => by simp [addrsL, hasA], by simp [addrsL]⟩
  | cons x xs ih =>
    intro A h
    obtain ⟨p1, p2, p3⟩ := ih (insI A x.f0) (insI_ris A x.f0 h)
    refine ⟨p1, fun b => ?_, ?_⟩
    · show b ∈ addrsL (insI A x.f0) xs ↔ _
      rw [p2, insI_mem, hasA_cons]
      constructor
      · rintro ((h | h) | h) <;> simp [h]
      · rintro (h | h | h)
        · exact .inl (.inr h)
        · exact .inl (.inl h.symm)
        · exact .inr h
    · show (addrsL (insI A x.f0) xs).length ≤ _
      have := insI_len A x.f0; simp only [List.length_cons]; omega
/-- The reference's profile. -/
def profS (l : List S32) : List S32 := (addrsL [] l).map (fun a => ⟨a, cntOf l a⟩)
theorem cntOf_map (g : Int → Int) : ∀ (A : List Int) (b : Int), A.Pairwise (· < ·) → cntOf (A.map (fun a => ⟨a, g a⟩)) b = if b ∈ A then g b else 0 := by
  intro A
  induction A with
  | nil => intro b _; simp [cntOf]
  | cons a bs ih =>
    intro b h
    rw [List.pairwise_cons] at h
    simp only [List.map_cons, cntOf]
    rw [ih b h.2]
    by_cases e : a = b
    · subst e
      have : a ∉ bs := fun h1 => by have := h.1 a h1; omega
      simp [this]
    · have e' : ¬ b = a := fun h => e h.symm
      simp [e, e']
theorem profS_facts (l : List S32) : Ris (profS l) ∧ (∀ a, hasA (profS l) a ↔ hasA l a) ∧ (∀ a, cntOf (profS l) a = cntOf l a) := by
  obtain ⟨p1, p2, p3⟩ := addrsL_facts l [] List.Pairwise.nil
  have hm : ∀ b, b ∈ addrsL [] l ↔ hasA l b := fun b => by rw [p2]; simp
  refine ⟨?_, fun a => ?_, fun a => ?_⟩
  · unfold Ris profS
    rw [List.pairwise_map]
    exact p1
  · rw [← hm]
    unfold profS hasA
    constructor
    · rintro ⟨x, hx, rfl⟩
      obtain ⟨b, hb, rfl⟩ := List.mem_map.1 hx
      exact hb
    · intro h; exact ⟨⟨a, cntOf l a⟩, List.mem_map.2 ⟨a, h, rfl⟩, rfl⟩
  · unfold profS
    rw [cntOf_map _ _ _ p1]
    split
    · rfl
    · rename_i h
      rw [hm] at h
      exact (cntOf_zero l a (fun x hx e => h ⟨x, hx, e⟩)).symm
theorem cntOf_bd {l : List S32} {M : Int} (h : Cn l M) (hM : 0 ≤ M) (a : Int) : 0 ≤ cntOf l a ∧ cntOf l a ≤ l.length * M := by
  induction l with
  | nil => simp [cntOf]
  | cons x xs ih =>
    have hx := h x (by simp)
    have := ih (fun y hy => h y (List.mem_cons_of_mem _ hy))
    have e : ((x :: xs).length : Int) * M = xs.length * M + M := by simp only [List.length_cons]; push_cast; rw [Int.add_mul]; omega
    simp only [cntOf]
    rw [e]
    split <;> omega
theorem count_l0 (l : List S32) (a M : Int) (hc : Cn l M) (hM : 0 ≤ M) (hl : l.length ≤ 100000) (hb : l.length * M ≤ 9000000000000000000) : ∀ (es : List S32) (m : Nat) (s : Int), l.drop m = es → m ≤ l.length → 0 ≤ s → s + es.length * M ≤ 9000000000000000000 →
    Ev (fun k => linkhouseref8_CountOf.l0 k l a s m) (s + cntOf es a) := by
  intro es
  induction es with
  | nil =>
    intro m s hd hm hs hb'
    have hml := drop_nil_le hd
    refine Ev.step (f := fun _ => some s) (fun k => ?_) (by simpa [cntOf] using Ev.now s)
    simp only [linkhouseref8_CountOf.l0]
    rw [if_neg (by omega)]
  | cons e es ih =>
    intro m s hd hm hs hb'
    obtain ⟨hrd, hml, hd'⟩ := rd32 l m e es hd
    have hx := hc e (by rw [show e = l[m] from by rw [← hrd]; simp [rd_T32, hml]]; exact List.getElem_mem hml)
    have hw : wrap64 ((m : Int) + 1) = ((m + 1 : Nat) : Int) := by rw [wrap_id (by omega) (by omega)]; rfl
    have hlen : ((e :: es).length : Int) * M = M + es.length * M := by simp only [List.length_cons]; push_cast; rw [Int.add_mul]; omega
    rw [hlen] at hb'
    have hnn : 0 ≤ (es.length : Int) * M := Int.mul_nonneg (by omega) hM
    simp only [cntOf]
    by_cases h : e.f0 = a
    · rw [if_pos h, ← Int.add_assoc]
      refine Ev.step (f := fun k => linkhouseref8_CountOf.l0 k l a (s + e.f1) ((m + 1 : Nat) : Int)) (fun k => ?_) (ih (m + 1) (s + e.f1) hd' (by omega) (by omega) (by omega))
      simp only [linkhouseref8_CountOf.l0]
      rw [if_pos (by omega), if_pos (by omega), hrd, if_pos h, wrap_id (by omega) (by omega), hw]
    · rw [if_neg h, Int.zero_add]
      refine Ev.step (f := fun k => linkhouseref8_CountOf.l0 k l a s ((m + 1 : Nat) : Int)) (fun k => ?_) (ih (m + 1) s hd' (by omega) hs (by omega))
      simp only [linkhouseref8_CountOf.l0]
      rw [if_pos (by omega), if_pos (by omega), hrd, if_neg h, hw]
theorem count_ev (l : List S32) (a M : Int) (hc : Cn l M) (hM : 0 ≤ M) (hl : l.length ≤ 100000) (hb : l.length * M ≤ 9000000000000000000) : Ev (fun k => linkhouseref8_CountOf.f k l a) (cntOf l a) := by
  have := count_l0 l a M hc hM hl hb l 0 0 rfl (by omega) (by omega) (by omega)
  simpa [linkhouseref8_CountOf.f] using this
theorem prof_l1 (l : List S32) (A : List Int) (M : Int) (hc : Cn l M) (hM : 0 ≤ M) (hl : l.length ≤ 100000) (hA : A.length ≤ 100000) (hb : l.length * M ≤ 9000000000000000000) : ∀ (es : List Int) (m : Nat) (out : List S32), A.drop m = es → m ≤ A.length → out.length ≤ m →
    Ev (fun k => linkhouseref8_Profile.l1 k l A out m) (out ++ es.map (fun a => ⟨a, cntOf l a⟩)) := by
  intro es
  induction es with
  | nil =>
    intro m out hd hm ho
    have hml := drop_nil_le hd
    refine Ev.step (f := fun _ => some out) (fun k => ?_) (by simpa using Ev.now out)
    simp only [linkhouseref8_Profile.l1]
    rw [if_neg (by omega)]
  | cons e es ih =>
    intro m out hd hm ho
    obtain ⟨hrd, hml, hd'⟩ := rdI A m e es hd
    have hw : wrap64 ((m : Int) + 1) = ((m + 1 : Nat) : Int) := by rw [wrap_id (by omega) (by omega)]; rfl
    refine Ev.step (f := fun k => (linkhouseref8_CountOf.f k l e).bind fun t => (if out.length < 8796093022208 then (linkhouseref8_Profile.l1 k l A (out ++ [(⟨e, t⟩ : S32)]) ((m + 1 : Nat) : Int)) else (none))) (fun k => ?_) ?_
    · simp only [linkhouseref8_Profile.l1]
      rw [if_pos (by omega), if_pos (by omega), hrd, hw]
    · refine Ev.bind (count_ev l e M hc hM hl hb) ?_
      simp only [if_pos (show out.length < 8796093022208 by omega)]
      rw [List.map_cons, show out ++ (⟨e, cntOf l e⟩ : S32) :: es.map (fun a => (⟨a, cntOf l a⟩ : S32)) = (out ++ [⟨e, cntOf l e⟩]) ++ es.map (fun a => ⟨a, cntOf l a⟩) from by simp]
      exact ih (m + 1) _ hd' (by omega) (by simp; omega)
theorem prof_l0 (l : List S32) (M : Int) (hc : Cn l M) (hM : 0 ≤ M) (hl : l.length ≤ 50000) (hb : l.length * M ≤ 9000000000000000000) : ∀ (es : List S32) (m : Nat) (A : List Int), l.drop m = es → m ≤ l.length → A.length ≤ m →
    Ev (fun k => linkhouseref8_Profile.l0 k l A m) ((addrsL A es).map (fun a => ⟨a, cntOf l a⟩)) := by
  intro es
  induction es with
  | nil =>
    intro m A hd hm ho
    have hml := drop_nil_le hd
    refine Ev.step (f := fun k => linkhouseref8_Profile.l1 k l A [] ((0 : Nat) : Int)) (fun k => ?_) ?_
    · simp only [linkhouseref8_Profile.l0]
      rw [if_neg (by omega)]; rfl
    · have := prof_l1 l A M hc hM (by omega) (by omega) hb A 0 [] rfl (by omega) (by simp)
      simpa [addrsL] using this
  | cons e es ih =>
    intro m A hd hm ho
    obtain ⟨hrd, hml, hd'⟩ := rd32 l m e es hd
    have hw : wrap64 ((m : Int) + 1) = ((m + 1 : Nat) : Int) := by rw [wrap_id (by omega) (by omega)]; rfl
    refine Ev.step (f := fun k => (linkhouseref7_Insert.f k A e.f0).bind fun t => (linkhouseref8_Profile.l0 k l t ((m + 1 : Nat) : Int))) (fun k => ?_) ?_
    · simp only [linkhouseref8_Profile.l0]
      rw [if_pos (by omega), if_pos (by omega), hrd, hw]
    · refine Ev.bind (ins_ev A e.f0 (by omega)) ?_
      exact ih (m + 1) (insI A e.f0) hd' (by omega) (by have := insI_len A e.f0; omega)
theorem prof_ev (l : List S32) (M : Int) (hc : Cn l M) (hM : 0 ≤ M) (hl : l.length ≤ 50000) (hb : l.length * M ≤ 9000000000000000000) : Ev (fun k => linkhouseref8_Profile.f k l) (profS l) := by
  have := prof_l0 l M hc hM hl hb l 0 [] rfl (by omega) (by simp)
  simpa [linkhouseref8_Profile.f, profS] using this
/-- The reference's profile is what adding up gives. -/
theorem profS_merge (o t : List S32) (M N : Int) (hM : 1 ≤ M) (hs : Srt o) (ho : Cn o N) (hr : InR t) (ht : Cn t M) (h0 : 0 ≤ N) (hb : N + t.length * M ≤ 9000000000000000000) : mergeL o t = profS (o ++ t) := by
  obtain ⟨p1, p2, p3, p4, p5⟩ := mergeL_facts M hM t o N hs ho hr ht h0 hb
  obtain ⟨q1, q2, q3⟩ := profS_facts (o ++ t)
  exact ris_ext _ _ p1.2 q1 (fun a => by rw [p4, q2, hasA_append]) (fun a => by rw [p3, q3, cntOf_append])
end Go.Proofs.Ytjchmckbhfoopaa.PS
