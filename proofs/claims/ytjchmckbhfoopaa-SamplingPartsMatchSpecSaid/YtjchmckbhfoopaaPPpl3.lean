/- What sampling.Calls answers is what the counts of CallsOf say. Conditions: those of each fact. -/
import Derived.Test.YtjchmckbhfoopaaPPpl2
import Derived.Test.YtjchmckbhfoopaaPPsrt
namespace Go.Proofs.Ytjchmckbhfoopaa.PP
open Go.RowKit Go.Proofs.YtjchmckbhfoopaaW.PrintWords Go.Proofs.YtjchmckbhfoopaaW.PrintLast Go.Proofs.YtjchmckbhfoopaaW.PrintMore
set_option linter.unusedVariables false
set_option linter.unusedSimpArgs false
def val : List S53 → Int → Int → Int
  | [], _, _ => 0
  | n :: ns, x, y => (if n.f0 = x ∧ n.f1 = y then n.f2 else 0) + val ns x y
theorem val_append (l m : List S53) (x y : Int) : val (l ++ m) x y = val l x y + val m x y := by
  induction l with
  | nil => simp [val]
  | cons a l ih => simp only [List.cons_append, val, ih]; omega
theorem val_set : ∀ (l : List S53) (j : Nat) (h : j < l.length) (x y : Int), val (l.set j ⟨l[j].f0, l[j].f1, l[j].f2 + 1⟩) x y = val l x y + if l[j].f0 = x ∧ l[j].f1 = y then 1 else 0
  | [], j, h, _, _ => by simp at h
  | a :: l, 0, _, x, y => by
    simp only [List.set_cons_zero, List.getElem_cons_zero, val]
    split <;> omega
  | a :: l, j + 1, h, x, y => by
    have := val_set l j (by simpa using h) x y
    simp only [List.set_cons_succ, List.getElem_cons_succ, val]
    rw [this]; omega
theorem val_bump (a b : Int) (l : List S53) (x y : Int) : val (bump a b l) x y = val l x y + if a = x ∧ b = y then 1 else 0 := by
  unfold bump
  split
  · rw [val_append]; simp [val]
  · rename_i hn
    obtain ⟨hj, hy⟩ := idx_yes _ _ _ (by omega) hn
    simp only [Int.sub_zero] at hj hy
    obtain ⟨j, hJ⟩ : ∃ j, j = (idx (isNear a b) l 0).toNat := ⟨_, rfl⟩
    have hJ' : idx (isNear a b) l 0 = (j : Int) := by omega
    simp only [← hJ] at hj hy
    rw [hJ', rd53 l j hj, Int.toNat_natCast, val_set l j hj]
    simp only [isNear, decide_eq_true_eq] at hy
    rw [hy.1, hy.2]
def Off (l : List S53) : Prop := ∀ n ∈ l, n.f0 ≠ n.f1
theorem off_bump {a b : Int} {l : List S53} (h : Off l) (hab : a ≠ b) : Off (bump a b l) := by
  unfold bump
  split
  · intro n hn
    rcases List.mem_append.1 hn with hn | hn
    · exact h n hn
    · obtain rfl := List.mem_singleton.1 hn; exact hab
  · rename_i hn
    obtain ⟨hj, hy⟩ := idx_yes _ _ _ (by omega) hn
    simp only [Int.sub_zero] at hj hy
    obtain ⟨j, hJ⟩ : ∃ j, j = (idx (isNear a b) l 0).toNat := ⟨_, rfl⟩
    have hJ' : idx (isNear a b) l 0 = (j : Int) := by omega
    simp only [← hJ] at hj hy
    rw [hJ', rd53 l j hj, Int.toNat_natCast]
    intro n hn
    rcases List.mem_or_eq_of_mem_set hn with hn | rfl
    · exact h n hn
    · exact h l[j] (List.getElem_mem hj)
theorem run_counts (ls : List S59) (E : List S30) (hE : ∀ e ∈ E, badEv e = false) (hb : ∀ p ∈ ls, badPlace p = false) :
    ∀ (es : List S30) (m : Nat) (la : List Int) (out : List S53), E.drop m = es → m ≤ E.length → Inv ls.length (m : Int) la out → (∀ c : Int, 0 ≤ c → c < 4 → la.getD c.toNat 0 = lastP ls E c m) → Off out →
      ∃ r la', callsRun ls es (m : Int) la out = .ok r ∧ Inv ls.length (E.length : Int) la' r ∧ Off r ∧ ∀ x y : Int, 0 ≤ x → 0 ≤ y → x ≠ y → val r x y = val out x y + cntF ls E x y es m := by
  intro es
  induction es with
  | nil =>
    intro m la out hd hm hi hla ho
    have hml := drop_nil_le hd
    obtain rfl : m = E.length := by omega
    exact ⟨out, la, rfl, hi, ho, fun x y _ _ _ => by simp [cntF]⟩
  | cons e es ih =>
    intro m la out hd hm hi hla ho
    obtain ⟨hrd, hml, hd'⟩ := rd30 E m e es hd
    have hbe := hE e (by rw [← hrd, rdE E m hml]; exact List.getElem_mem hml)
    have hok : 0 ≤ e.f0 ∧ e.f0 < 4 ∧ -1 ≤ e.f1 ∧ e.f1 < 1048576 := by simp only [badEv, decide_eq_false_iff_not] at hbe; omega
    have e1 : (m : Int) + 1 = ((m + 1 : Nat) : Int) := rfl
    rw [callsRun, if_neg (by rw [hbe]; decide)]
    by_cases h5 : e.f1 = -1
    · rw [if_pos h5, e1]
      obtain ⟨r, la', hr, hi', ho', hv⟩ := ih (m + 1) la out hd' (by omega) (by have := hi.next; rwa [e1] at this) (fun c h0 h4 => by rw [hla c h0 h4]; simp only [lastP]; rw [hrd, if_neg (by omega)]) ho
      refine ⟨r, la', hr, hi', ho', fun x y hx hy hxy => ?_⟩
      rw [hv x y hx hy hxy]
      have hh : hit ls E x y m = false := by simp only [hit, hrd]; rw [decide_eq_false_iff_not]; omega
      simp only [cntF]; rw [hh]; simp
    · rw [if_neg h5]
      have hlen := hi.len
      have hfr : la.getD e.f0.toNat 0 = lastP ls E e.f0 m := hla _ hok.1 hok.2.1
      obtain ⟨tt, hT⟩ : ∃ tt, tt = idx (inPlace e.f1) ls 0 := ⟨_, rfl⟩
      have hTr : -1 ≤ tt ∧ tt < ls.length := by rw [hT]; have := idx_range (inPlace e.f1) ls 0; omega
      obtain ⟨fr, hF⟩ : ∃ fr, fr = lastP ls E e.f0 m := ⟨_, rfl⟩
      have hfb : -1 ≤ fr ∧ fr < ls.length := by
        rw [hF, ← hfr, List.getD_eq_getElem?_getD, List.getElem?_eq_getElem (by omega)]
        exact hi.lab _ (List.getElem_mem _)
      rw [hfr, ← hF, ← hT]
      have hla' : ∀ c : Int, 0 ≤ c → c < 4 → (la.set e.f0.toNat tt).getD c.toNat 0 = lastP ls E c (m + 1) := by
        intro c h0 h4
        simp only [lastP]
        rw [hrd]
        by_cases hc : e.f0 = c
        · rw [if_pos ⟨hc, by omega⟩, ← hT, ← hc, List.getD_eq_getElem?_getD, List.getElem?_set_self (by omega)]; rfl
        · rw [if_neg (fun h => hc h.1), ← hla c h0 h4, List.getD_eq_getElem?_getD, List.getElem?_set_ne (by omega), ← List.getD_eq_getElem?_getD]
      have hhit : ∀ x y : Int, hit ls E x y m = decide (tt = y ∧ e.f1 = (rd_T59 ls y).f0 ∧ fr = x) := by
        intro x y
        simp only [hit, hrd]
        rw [decide_eq_decide, ← hT, ← hF]
        exact ⟨fun h => h.2, fun h => ⟨by omega, h⟩⟩
      by_cases hp : passes ls fr tt e.f1 = true
      · rw [if_pos hp, e1]
        obtain ⟨r, la', hr, hi', ho', hv⟩ := ih (m + 1) _ out hd' (by omega) (by have := (hi.setLa e.f0.toNat tt hTr).next; rwa [e1] at this) hla' ho
        refine ⟨r, la', hr, hi', ho', fun x y hx hy hxy => ?_⟩
        rw [hv x y hx hy hxy]
        have hh : hit ls E x y m = false := by
          rw [hhit, decide_eq_false_iff_not]
          rintro ⟨rfl, h2, rfl⟩
          simp only [passes, decide_eq_true_eq] at hp
          omega
        simp only [cntF]; rw [hh]; simp
      · rw [if_neg hp, e1]
        simp only [passes, decide_eq_true_eq] at hp
        have hq : 0 ≤ fr ∧ 0 ≤ tt ∧ fr ≠ tt ∧ e.f1 = (rd_T59 ls tt).f0 := by omega
        obtain ⟨r, la', hr, hi', ho', hv⟩ := ih (m + 1) _ (bump fr tt out) hd' (by omega) (by have := (hi.setLa e.f0.toNat tt hTr).bump fr tt ⟨hq.1, hfb.2⟩ ⟨hq.2.1, hTr.2⟩ (by omega); rwa [e1] at this) hla' (off_bump ho hq.2.2.1)
        refine ⟨r, la', hr, hi', ho', fun x y hx hy hxy => ?_⟩
        rw [hv x y hx hy hxy, val_bump]
        have hh : hit ls E x y m = decide (fr = x ∧ tt = y) := by
          rw [hhit, decide_eq_decide]
          constructor
          · exact fun h => ⟨h.2.2, h.1⟩
          · rintro ⟨rfl, rfl⟩; exact ⟨rfl, hq.2.2.2, rfl⟩
        simp only [cntF]; rw [hh]
        simp only [decide_eq_true_eq]
        omega
/-! #### strictly rising rows are told by their values -/
def ltN (p q : S53) : Prop := p.f0 < q.f0 ∨ (p.f0 = q.f0 ∧ p.f1 < q.f1)
theorem val_zero (l : List S53) (x y : Int) (h : ∀ n ∈ l, ¬ (n.f0 = x ∧ n.f1 = y)) : val l x y = 0 := by
  induction l with
  | nil => rfl
  | cons a l ih =>
    simp only [val]
    rw [if_neg (h a (List.mem_cons_self ..)), ih (fun n hn => h n (List.mem_cons_of_mem _ hn))]; rfl
theorem val_nn (l : List S53) (hf : ∀ n ∈ l, 1 ≤ n.f2) (x y : Int) : 0 ≤ val l x y := by
  induction l with
  | nil => exact Int.le_refl _
  | cons a l ih =>
    have h1 := hf a (List.mem_cons_self ..)
    have h2 := ih (fun n hn => hf n (List.mem_cons_of_mem _ hn))
    simp only [val]
    split <;> omega
theorem val_head (a : S53) (l : List S53) (hs : (a :: l).Pairwise ltN) : val (a :: l) a.f0 a.f1 = a.f2 := by
  simp only [val]
  rw [if_pos (by simp), val_zero l]
  · omega
  · intro n hn
    have := (List.pairwise_cons.1 hs).1 n hn
    unfold ltN at this; omega
theorem near_ext : ∀ (r s : List S53), r.Pairwise ltN → s.Pairwise ltN → (∀ n ∈ r, 1 ≤ n.f2) → (∀ n ∈ s, 1 ≤ n.f2) → (∀ x y, val r x y = val s x y) → r = s
  | [], [], _, _, _, _, _ => rfl
  | [], b :: s, _, hs, _, hf, hv => by
    have h1 := hv b.f0 b.f1
    rw [val_head b s hs] at h1
    have := hf b (List.mem_cons_self ..)
    simp [val] at h1; omega
  | a :: r, [], hr, _, hf, _, hv => by
    have h1 := hv a.f0 a.f1
    rw [val_head a r hr] at h1
    have := hf a (List.mem_cons_self ..)
    simp [val] at h1; omega
  | a :: r, b :: s, hr, hs, hfr, hfs, hv => by
    have ha := hv a.f0 a.f1
    have hb := hv b.f0 b.f1
    rw [val_head a r hr] at ha
    rw [val_head b s hs] at hb
    have ha1 := hfr a (List.mem_cons_self ..)
    have hb1 := hfs b (List.mem_cons_self ..)
    have hk : a.f0 = b.f0 ∧ a.f1 = b.f1 := by
      by_cases h1 : ltN a b
      · rw [val_zero (b :: s) a.f0 a.f1] at ha
        · omega
        · intro n hn
          rcases List.mem_cons.1 hn with rfl | hn
          · unfold ltN at h1; omega
          · have := (List.pairwise_cons.1 hs).1 n hn
            unfold ltN at h1 this; omega
      · by_cases h2 : ltN b a
        · rw [val_zero (a :: r) b.f0 b.f1] at hb
          · omega
          · intro n hn
            rcases List.mem_cons.1 hn with rfl | hn
            · unfold ltN at h2; omega
            · have := (List.pairwise_cons.1 hr).1 n hn
              unfold ltN at h2 this; omega
        · unfold ltN at h1 h2; omega
    have hab : a = b := by
      have h3 : val (b :: s) a.f0 a.f1 = b.f2 := by rw [hk.1, hk.2]; exact val_head b s hs
      rw [h3] at ha
      cases a; cases b; simp_all
    subst hab
    congr 1
    refine near_ext r s (List.pairwise_cons.1 hr).2 (List.pairwise_cons.1 hs).2 (fun n hn => hfr n (List.mem_cons_of_mem _ hn)) (fun n hn => hfs n (List.mem_cons_of_mem _ hn)) (fun x y => ?_)
    have := hv x y
    simp only [val] at this
    omega
theorem sortNear_lt {l : List S53} (hk : l.Pairwise (fun x y => ¬ (x.f0 = y.f0 ∧ x.f1 = y.f1))) : (sortNear l).Pairwise ltN := by
  have htr : ∀ a b c : S53, leNear a b = true → leNear b c = true → leNear a c = true := by
    intro a b c; simp only [leNear, decide_eq_true_eq, keyCmp_le]
    omega
  have hto : ∀ a b : S53, (leNear a b || leNear b a) = true := by
    intro a b; simp only [leNear, Bool.or_eq_true, decide_eq_true_eq, keyCmp_le]
    omega
  have h1 : (sortNear l).Pairwise (fun x y => leNear x y = true) := List.pairwise_mergeSort htr hto l
  have h2 : (sortNear l).Pairwise (fun x y => ¬ (x.f0 = y.f0 ∧ x.f1 = y.f1)) := (List.mergeSort_perm l leNear).pairwise_iff (fun h e => h ⟨e.1.symm, e.2.symm⟩) |>.2 hk
  refine (List.pairwise_and_iff.2 ⟨h1, h2⟩).imp (fun {a b} h => ?_)
  obtain ⟨h3, h4⟩ := h
  simp only [leNear, decide_eq_true_eq, keyCmp_le] at h3
  unfold ltN
  omega
theorem val_perm {l m : List S53} (h : l.Perm m) (x y : Int) : val l x y = val m x y := by
  induction h with
  | nil => rfl
  | cons a _ ih => simp only [val, ih]
  | swap a b l => simp only [val]; omega
  | trans _ _ ih1 ih2 => exact ih1.trans ih2
end Go.Proofs.Ytjchmckbhfoopaa.PP
