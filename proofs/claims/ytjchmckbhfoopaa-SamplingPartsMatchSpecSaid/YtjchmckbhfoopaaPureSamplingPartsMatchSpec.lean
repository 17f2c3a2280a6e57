/- SamplingPartsMatchSpec, the plain law: lawParts answers true. Conditions: none but the lengths that a slice can have. -/
import Derived.Test.YtjchmckbhfoopaaPPx12
import Derived.Test.YtjchmckbhfoopaaPPpl3
import Derived.Test.YtjchmckbhfoopaaPPpl4
namespace Go.Proofs.Ytjchmckbhfoopaa.Pure
open Go.RowKit Go.Proofs.Ytjchmckbhfoopaa.PP Go.Proofs.YtjchmckbhfoopaaW.PrintWords Go.Proofs.YtjchmckbhfoopaaW.PrintLast Go.Proofs.YtjchmckbhfoopaaW.PrintMore
set_option linter.unusedVariables false
set_option linter.unusedSimpArgs false
theorem fin_ev : Ev (fun k => (linkhouselaw8_sampled.f k).bind fun t => (some t)) true := Ev.bind sampled_ev (Ev.now _)
theorem in_f (a lo hi : Int) : linkhouseref7_In.f a lo hi = some (decide (lo ≤ a ∧ a ≤ hi)) := by
  unfold linkhouseref7_In.f
  by_cases h : lo ≤ a
  · rw [if_pos h]; simp [h]
  · rw [if_neg h]; simp [h]
/-! #### the wanted row -/
def wantR (ls : List S59) (E : List S30) (x : Int) : Nat → Nat → List S53
  | 0, _ => []
  | r + 1, y => (if x ≠ (y : Int) ∧ 0 < cntF ls E x y E 0 then [⟨x, y, cntF ls E x y E 0⟩] else []) ++ wantR ls E x r (y + 1)
def wantA (ls : List S59) (E : List S30) (n : Nat) : Nat → Nat → List S53
  | 0, _ => []
  | r + 1, x => wantR ls E x n 0 ++ wantA ls E n r (x + 1)
theorem wantR_mem (ls : List S59) (E : List S30) (x : Int) : ∀ (r y : Nat), ∀ p ∈ wantR ls E x r y, p.f0 = x ∧ (y : Int) ≤ p.f1 ∧ p.f1 < y + r ∧ 1 ≤ p.f2
  | 0, _, p, hp => by simp [wantR] at hp
  | r + 1, y, p, hp => by
    simp only [wantR] at hp
    rcases List.mem_append.1 hp with hp | hp
    · split at hp
      · rename_i h
        obtain rfl := List.mem_singleton.1 hp
        refine ⟨rfl, Int.le_refl _, by simp; omega, by simp; omega⟩
      · simp at hp
    · have := wantR_mem ls E x r (y + 1) p hp
      push_cast at this ⊢
      omega
theorem wantR_lt (ls : List S59) (E : List S30) (x : Int) : ∀ (r y : Nat), (wantR ls E x r y).Pairwise ltN
  | 0, _ => by simp [wantR]
  | r + 1, y => by
    simp only [wantR]
    rw [List.pairwise_append]
    refine ⟨by split <;> simp, wantR_lt ls E x r (y + 1), fun p hp q hq => ?_⟩
    have h2 := wantR_mem ls E x r (y + 1) q hq
    split at hp
    · obtain rfl := List.mem_singleton.1 hp
      unfold ltN
      simp only
      push_cast at h2
      omega
    · simp at hp
theorem wantR_val (ls : List S59) (E : List S30) (x : Int) (a b : Int) : ∀ (r y : Nat), val (wantR ls E x r y) a b = if a = x ∧ (y : Int) ≤ b ∧ b < y + r ∧ a ≠ b then cntF ls E a b E 0 else 0
  | 0, y => by rw [if_neg (by push_cast; omega)]; rfl
  | r + 1, y => by
    simp only [wantR]
    rw [val_append, wantR_val ls E x a b r (y + 1)]
    have hnn := cntF_bd ls E x y E 0
    by_cases h : a = x ∧ b = (y : Int)
    · obtain ⟨rfl, rfl⟩ := h
      rw [if_neg (c := a = a ∧ ((y + 1 : Nat) : Int) ≤ (y : Int) ∧ _) (by push_cast; omega)]
      by_cases h2 : a ≠ (y : Int) ∧ 0 < cntF ls E a y E 0
      · rw [if_pos h2, if_pos (by push_cast; omega)]
        simp [val]
      · rw [if_neg h2]
        by_cases h3 : a = (y : Int)
        · rw [if_neg (by omega)]; rfl
        · rw [if_pos (by push_cast; omega)]
          simp only [val]; omega
    · have hv : val (if x ≠ (y : Int) ∧ 0 < cntF ls E x y E 0 then [⟨x, y, cntF ls E x y E 0⟩] else []) a b = 0 := by
        split
        · simp only [val]; rw [if_neg (fun h3 => h ⟨h3.1.symm, h3.2.symm⟩)]; rfl
        · rfl
      rw [hv, Int.zero_add]
      by_cases h4 : a = x ∧ ((y + 1 : Nat) : Int) ≤ b ∧ b < ((y + 1 : Nat) : Int) + (r : Int) ∧ a ≠ b
      · rw [if_pos h4, if_pos (by push_cast at h4 ⊢; omega)]
      · rw [if_neg h4, if_neg (by push_cast at h4 ⊢; omega)]
theorem wantR_len (ls : List S59) (E : List S30) (x : Int) : ∀ (r y : Nat), (wantR ls E x r y).length ≤ r
  | 0, _ => by simp [wantR]
  | r + 1, y => by
    have := wantR_len ls E x r (y + 1)
    simp only [wantR, List.length_append]
    split <;> simp <;> omega
theorem wantA_mem (ls : List S59) (E : List S30) (n : Nat) : ∀ (r x : Nat), ∀ p ∈ wantA ls E n r x, (x : Int) ≤ p.f0 ∧ p.f0 < x + r ∧ 1 ≤ p.f2
  | 0, _, p, hp => by simp [wantA] at hp
  | r + 1, x, p, hp => by
    simp only [wantA] at hp
    rcases List.mem_append.1 hp with hp | hp
    · have := wantR_mem ls E x n 0 p hp
      push_cast
      omega
    · have := wantA_mem ls E n r (x + 1) p hp
      push_cast at this ⊢
      omega
theorem wantA_lt (ls : List S59) (E : List S30) (n : Nat) : ∀ (r x : Nat), (wantA ls E n r x).Pairwise ltN
  | 0, _ => by simp [wantA]
  | r + 1, x => by
    simp only [wantA]
    rw [List.pairwise_append]
    refine ⟨wantR_lt ls E x n 0, wantA_lt ls E n r (x + 1), fun p hp q hq => ?_⟩
    have h1 := wantR_mem ls E x n 0 p hp
    have h2 := wantA_mem ls E n r (x + 1) q hq
    push_cast at h2
    unfold ltN
    omega
theorem wantA_val (ls : List S59) (E : List S30) (n : Nat) (a b : Int) : ∀ (r x : Nat), val (wantA ls E n r x) a b = if (x : Int) ≤ a ∧ a < x + r ∧ 0 ≤ b ∧ b < n ∧ a ≠ b then cntF ls E a b E 0 else 0
  | 0, x => by rw [if_neg (by push_cast; omega)]; rfl
  | r + 1, x => by
    simp only [wantA]
    rw [val_append, wantA_val ls E n a b r (x + 1), wantR_val]
    by_cases h : a = (x : Int)
    · rw [if_neg (c := ((x + 1 : Nat) : Int) ≤ a ∧ _) (by push_cast; omega), Int.add_zero]
      by_cases h2 : 0 ≤ b ∧ b < n ∧ a ≠ b
      · rw [if_pos (by push_cast; omega), if_pos (by push_cast; omega)]
      · rw [if_neg (by push_cast; omega), if_neg (by push_cast; omega)]
    · rw [if_neg (c := a = (x : Int) ∧ _) (by omega), Int.zero_add]
      by_cases h2 : ((x + 1 : Nat) : Int) ≤ a ∧ a < ((x + 1 : Nat) : Int) + (r : Int) ∧ 0 ≤ b ∧ b < n ∧ a ≠ b
      · rw [if_pos h2, if_pos (by push_cast at h2 ⊢; omega)]
      · rw [if_neg h2, if_neg (by push_cast at h2 ⊢; omega)]
theorem wantA_len (ls : List S59) (E : List S30) (n : Nat) : ∀ (r x : Nat), (wantA ls E n r x).length ≤ r * n
  | 0, _ => by simp [wantA]
  | r + 1, x => by
    have h1 := wantA_len ls E n r (x + 1)
    have h2 := wantR_len ls E x n 0
    simp only [wantA, List.length_append]
    rw [Nat.add_mul, Nat.one_mul]; omega
/-- The sorted calls are the wanted row. -/
theorem run_want (ls : List S59) (E : List S30) (hE : ∀ e ∈ E, badEv e = false) (hb : ∀ p ∈ ls, badPlace p = false) :
    ∃ r, callsRun ls E 0 [-1, -1, -1, -1] [] = .ok r ∧ sortNear r = wantA ls E ls.length ls.length 0 ∧ r.length ≤ ls.length * ls.length := by
  obtain ⟨r, la', hr, hi, ho, hv⟩ := run_counts ls E hE hb E 0 [-1, -1, -1, -1] [] rfl (Nat.zero_le _) ⟨rfl, fun x hx => by simp at hx; omega, by simp, by simp, by simp⟩ (fun c h0 h4 => by
    rcases (by omega : c = 0 ∨ c = 1 ∨ c = 2 ∨ c = 3) with rfl | rfl | rfl | rfl <;> rfl) (fun n hn => by simp at hn)
  have hperm := List.mergeSort_perm r leNear
  have hs : sortNear r = wantA ls E ls.length ls.length 0 := by
    refine near_ext _ _ (sortNear_lt hi.keys) (wantA_lt _ _ _ _ _) (fun n hn => (hi.ob n (hperm.mem_iff.1 hn)).2.2.2.2.1) (fun n hn => (wantA_mem _ _ _ _ _ n hn).2.2) (fun x y => ?_)
    rw [wantA_val, show val (sortNear r) x y = val r x y from val_perm hperm x y]
    by_cases h : 0 ≤ x ∧ x < ls.length ∧ 0 ≤ y ∧ y < ls.length ∧ x ≠ y
    · rw [if_pos (by push_cast; omega), hv x y h.1 h.2.2.1 h.2.2.2.2]
      simp [val]
    · rw [if_neg (by push_cast; omega)]
      refine val_zero r x y (fun n hn hk => ?_)
      have h1 := hi.ob n hn
      have h2 := ho n hn
      omega
  refine ⟨r, hr, hs, ?_⟩
  rw [← hperm.length_eq]
  show (sortNear r).length ≤ _
  rw [hs]
  exact wantA_len _ _ _ _ _
theorem run_bad (ls : List S59) : ∀ (es : List S30) (m : Nat) (la : List Int) (out : List S53), ¬ idx badEv es (m : Int) < 0 → callsRun ls es (m : Int) la out = .error (idx badEv es (m : Int))
  | [], m, la, out, h => by simp [idx] at h
  | e :: es, m, la, out, h => by
    rw [idx_cons] at h ⊢
    by_cases hb : badEv e = true
    · rw [if_pos hb, callsRun, if_pos hb]
    · rw [if_neg hb] at h ⊢
      have ih := fun la out => run_bad ls es (m + 1) la out h
      rw [callsRun, if_neg hb]
      have e1 : (m : Int) + 1 = ((m + 1 : Nat) : Int) := rfl
      rw [e1, ih, ih, ih]
      split
      · rfl
      · split <;> rfl
/-! #### the law's ends -/
theorem l5_ev (C : List S53) (hC : C.length ≤ 100000) : ∀ (r m : Nat), m + r = C.length → Ev (fun k => lawParts.l5 k C C m) true
  | 0, m, h => by
    refine Ev.step (f := fun k => (linkhouselaw8_sampled.f k).bind fun t => (some t)) (fun k => ?_) fin_ev
    simp only [lawParts.l5]
    rw [if_neg (by omega)]
  | r + 1, m, h => by
    have hw : wrap64 ((m : Int) + 1) = ((m + 1 : Nat) : Int) := by rw [wrap_id (by omega) (by omega)]; rfl
    refine Ev.step (f := fun k => lawParts.l5 k C C ((m + 1 : Nat) : Int)) (fun k => ?_) (l5_ev C hC r (m + 1) (by omega))
    simp only [lawParts.l5]
    rw [if_pos (by omega), if_pos (by omega), if_pos (by omega), hw, if_neg (by simp)]
theorem j15_ev (C : List S53) (hC : C.length ≤ 100000) : Ev (fun k => lawParts.j15 k C C false) true := by
  refine Ev.step (f := fun k => lawParts.l5 k C C ((0 : Nat) : Int)) (fun k => ?_) (l5_ev C hC C.length 0 (by omega))
  simp only [lawParts.j15, Bool.false_eq_true, if_false]; rfl
theorem j13_end (E : List S30) (ls : List S59) (C : List S53) (hC : C.length ≤ 100000) (i g0 g1 : Int) : Ev (fun k => lawParts.j13 k E ls C C i false g0 g1 g0 g1) true := by
  refine Ev.step (f := fun k => lawParts.j15 k C C false) (fun k => ?_) (j15_ev C hC)
  simp [lawParts.j13]
theorem err_l3 (E : List S30) (ls : List S59) (g0 g1 : Int) (h : g0 ≠ 0) : Ev (fun k => lawParts.l3 k E ls [] [] 0 g0 g1 g0 g1) true := by
  refine Ev.step (f := fun k => lawParts.j13 k E ls [] [] 0 false g0 g1 g0 g1) (fun k => ?_) (j13_end E ls [] (by simp) 0 g0 g1)
  simp only [lawParts.l3]
  rw [show (g0 == 0) = false from by simpa using h]
  split <;> rfl
theorem err_j10 (E : List S30) (ls : List S59) (m g0 g1 : Int) (h : g0 ≠ 0) : Ev (fun k => lawParts.j10 k E ls [] m false g0 g1 g0 g1) true := by
  refine Ev.step (f := fun k => lawParts.j11 k E ls [] false g0 g1 g0 g1) (fun k => ?_) ?_
  · simp only [lawParts.j10, Bool.false_eq_true, if_false]
    rw [if_neg h]
  · refine Ev.step (f := fun k => lawParts.l3 k E ls [] [] 0 g0 g1 g0 g1) (fun k => ?_) (err_l3 E ls g0 g1 h)
    simp only [lawParts.j11, Bool.false_eq_true, if_false]
theorem err_l2 (E : List S30) (ls : List S59) (m g0 g1 : Int) (h : g0 ≠ 0) : Ev (fun k => lawParts.l2 k E ls [] m g0 g1 g0 g1) true := by
  refine Ev.step (f := fun k => lawParts.j10 k E ls [] m false g0 g1 g0 g1) (fun k => ?_) (err_j10 E ls m g0 g1 h)
  simp only [lawParts.l2]
  rw [show (g0 == 0) = false from by simpa using h]
  split <;> rfl
theorem err_j8 (E : List S30) (ls : List S59) (g0 g1 : Int) (h : g0 ≠ 0) : Ev (fun k => lawParts.j8 k E ls [] g0 g1 g0 g1) true := by
  refine Ev.step (f := fun k => lawParts.l2 k E ls [] 0 g0 g1 g0 g1) (fun k => ?_) (err_l2 E ls 0 g0 g1 h)
  simp only [lawParts.j8]
/-! #### the wanted row's loops -/
theorem l4_ev (ls : List S59) (E : List S30) (hE : EvOk E) (hl : ls.length ≤ 8) (hb : ∀ p ∈ ls, badPlace p = false) (hn : E.length ≤ 10000) (C : List S53) (x : Nat) (hx : x < ls.length) (g0 g1 e0 e1 : Int) (W : List S53)
    (hW : Ev (fun k => lawParts.l3 k E ls C W ((x + 1 : Nat) : Int) g0 g1 e0 e1) true) : ∀ (r y : Nat) (acc : List S53), y + r = ls.length → acc.length + r ≤ 1000 → acc ++ wantR ls E x r y = W → Ev (fun k => lawParts.l4 k E ls C acc x y g0 g1 e0 e1) true
  | 0, y, acc, h, ha, hw => by
    have hwx : wrap64 ((x : Int) + 1) = ((x + 1 : Nat) : Int) := by rw [wrap_id (by omega) (by omega)]; rfl
    refine Ev.step (f := fun k => lawParts.l3 k E ls C W ((x + 1 : Nat) : Int) g0 g1 e0 e1) (fun k => ?_) hW
    simp only [lawParts.l4]
    rw [if_neg (by omega), hwx]
    simp only [wantR, List.append_nil] at hw
    rw [hw]
  | r + 1, y, acc, h, ha, hw => by
    have hwy : wrap64 ((y : Int) + 1) = ((y + 1 : Nat) : Int) := by rw [wrap_id (by omega) (by omega)]; rfl
    refine Ev.step (f := fun k => (linkhouseref8_CallsOf.f k E ls x y).bind fun t227 => (if (x : Int) = (y : Int) then (lawParts.l4 k E ls C acc x ((y + 1 : Nat) : Int) g0 g1 e0 e1) else (if t227 > 0 then (if acc.length < 5864062014805 then (lawParts.l4 k E ls C (acc ++ [(⟨x, y, t227⟩ : S53)]) x ((y + 1 : Nat) : Int) g0 g1 e0 e1) else (none)) else (lawParts.l4 k E ls C acc x ((y + 1 : Nat) : Int) g0 g1 e0 e1)))) (fun k => ?_) ?_
    · simp only [lawParts.l4]
      rw [if_pos (by omega), hwy]
    · refine Ev.bind (callsof_ev ls E x y (by omega) ⟨by omega, by omega⟩ hE (by omega) hb hn) ?_
      simp only [wantR] at hw
      by_cases h1 : (x : Int) = (y : Int)
      · simp only [if_pos h1]
        rw [if_neg (fun h => h.1 h1), List.nil_append] at hw
        exact l4_ev ls E hE hl hb hn C x hx g0 g1 e0 e1 W hW r (y + 1) acc (by omega) (by omega) hw
      · simp only [if_neg h1]
        by_cases h2 : cntF ls E x y E 0 > 0
        · simp only [if_pos h2]
          rw [if_pos ⟨h1, h2⟩, ← List.append_assoc] at hw
          have ih := l4_ev ls E hE hl hb hn C x hx g0 g1 e0 e1 W hW r (y + 1) (acc ++ [⟨x, y, cntF ls E x y E 0⟩]) (by omega) (by simp; omega) hw
          simp only [show acc.length < 5864062014805 from by omega, if_true]
          exact ih
        · simp only [if_neg h2]
          rw [if_neg (fun h => h2 h.2), List.nil_append] at hw
          exact l4_ev ls E hE hl hb hn C x hx g0 g1 e0 e1 W hW r (y + 1) acc (by omega) (by omega) hw
theorem l3_ev (ls : List S59) (E : List S30) (hE : EvOk E) (hl : ls.length ≤ 8) (hb : ∀ p ∈ ls, badPlace p = false) (hn : E.length ≤ 10000) (C : List S53) (g0 g1 e1 : Int) (W : List S53)
    (hW : Ev (fun k => lawParts.j13 k E ls C W (ls.length : Int) false g0 g1 0 e1) true) : ∀ (r x : Nat) (acc : List S53), x + r = ls.length → acc.length ≤ 8 * x → acc ++ wantA ls E ls.length r x = W → Ev (fun k => lawParts.l3 k E ls C acc x g0 g1 0 e1) true
  | 0, x, acc, h, ha, hw => by
    have e : (x : Int) = (ls.length : Int) := by omega
    rw [e]
    refine Ev.step (f := fun k => lawParts.j13 k E ls C W (ls.length : Int) false g0 g1 0 e1) (fun k => ?_) hW
    simp only [lawParts.l3]
    rw [if_neg (by omega)]
    simp only [wantA, List.append_nil] at hw
    rw [hw]
  | r + 1, x, acc, h, ha, hw => by
    refine Ev.step (f := fun k => lawParts.j13 k E ls C acc x true g0 g1 0 e1) (fun k => ?_) ?_
    · simp only [lawParts.l3]
      rw [if_pos (by omega)]
      rfl
    · refine Ev.step (f := fun k => lawParts.l4 k E ls C acc x ((0 : Nat) : Int) g0 g1 0 e1) (fun k => ?_) ?_
      · simp only [lawParts.j13, if_true]; rfl
      · simp only [wantA] at hw
        rw [← List.append_assoc] at hw
        have hlen := wantR_len ls E x ls.length 0
        refine l4_ev ls E hE hl hb hn C x (by omega) g0 g1 0 e1 (acc ++ wantR ls E x ls.length 0) ?_ ls.length 0 acc (by omega) (by omega) rfl
        exact l3_ev ls E hE hl hb hn C g0 g1 e1 W hW r (x + 1) (acc ++ wantR ls E x ls.length 0) (by omega) (by rw [List.length_append]; omega) hw
/-! #### the events' loop -/
theorem l2_bad (E : List S30) (ls : List S59) (hn : E.length ≤ 10000) (I : Int) : ∀ (es : List S30) (m : Nat), E.drop m = es → m ≤ E.length → ¬ idx badEv es (m : Int) < 0 → idx badEv es (m : Int) = I → Ev (fun k => lawParts.l2 k E ls [] m 3 I 0 0) true
  | [], m, _, _, h, _ => by simp [idx] at h
  | e :: es, m, hd, hm, h, hI => by
    obtain ⟨hrd, hml, hd'⟩ := rd30 E m e es hd
    have hw : wrap64 ((m : Int) + 1) = ((m + 1 : Nat) : Int) := by rw [wrap_id (by omega) (by omega)]; rfl
    rw [idx_cons] at h hI
    refine Ev.step (f := fun k => lawParts.j10 k E ls [] m true 3 I 0 0) (fun k => ?_) ?_
    · simp only [lawParts.l2]
      rw [if_pos (by omega)]; rfl
    · by_cases hb : badEv e = true
      · rw [if_pos hb] at hI
        subst hI
        refine Ev.step (f := fun k => lawParts.l2 k E ls [] ((m + 1 : Nat) : Int) 3 m 3 m) (fun k => ?_) (err_l2 E ls _ 3 m (by decide))
        simp only [lawParts.j10, if_true, linkhouseref7_At.f]
        rw [if_pos (by omega), if_pos (by omega), hrd, hw, in_f, in_f]
        simp only [Option.bind_some]
        simp only [badEv, decide_eq_true_eq] at hb ⊢
        split
        · split
          · omega
          · rfl
        · rfl
      · rw [if_neg hb] at h hI
        refine Ev.step (f := fun k => lawParts.l2 k E ls [] ((m + 1 : Nat) : Int) 3 I 0 0) (fun k => ?_) (l2_bad E ls hn I es (m + 1) hd' (by omega) h hI)
        simp only [badEv, decide_eq_true_eq] at hb
        simp only [lawParts.j10, if_true]
        rw [if_pos (by omega), if_pos (by omega), hrd, hw, in_f, in_f]
        simp only [Option.bind_some, decide_eq_true_eq]
        rw [if_pos (by omega), if_pos (by omega)]
theorem l2_ok (E : List S30) (ls : List S59) (hn : E.length ≤ 10000) (C : List S53) (g0 g1 : Int) (hE : ∀ e ∈ E, badEv e = false) (hJ : Ev (fun k => lawParts.j10 k E ls C (E.length : Int) false g0 g1 0 0) true) : ∀ (es : List S30) (m : Nat), E.drop m = es → m ≤ E.length → Ev (fun k => lawParts.l2 k E ls C m g0 g1 0 0) true
  | [], m, hd, hm => by
    have hml := drop_nil_le hd
    have e : (m : Int) = (E.length : Int) := by omega
    rw [e]
    refine Ev.step (f := fun k => lawParts.j10 k E ls C (E.length : Int) false g0 g1 0 0) (fun k => ?_) hJ
    simp only [lawParts.l2]
    rw [if_neg (by omega)]
  | e :: es, m, hd, hm => by
    obtain ⟨hrd, hml, hd'⟩ := rd30 E m e es hd
    have hw : wrap64 ((m : Int) + 1) = ((m + 1 : Nat) : Int) := by rw [wrap_id (by omega) (by omega)]; rfl
    have hb := hE e (by rw [← hrd, rdE E m hml]; exact List.getElem_mem hml)
    simp only [badEv, decide_eq_false_iff_not] at hb
    refine Ev.step (f := fun k => lawParts.j10 k E ls C m true g0 g1 0 0) (fun k => ?_) ?_
    · simp only [lawParts.l2]
      rw [if_pos (by omega)]; rfl
    · refine Ev.step (f := fun k => lawParts.l2 k E ls C ((m + 1 : Nat) : Int) g0 g1 0 0) (fun k => ?_) (l2_ok E ls hn C g0 g1 hE hJ es (m + 1) hd' (by omega))
      simp only [lawParts.j10, if_true]
      rw [if_pos (by omega), if_pos (by omega), hrd, hw, in_f, in_f]
      simp only [Option.bind_some, decide_eq_true_eq]
      rw [if_pos (by omega), if_pos (by omega)]
/-- What Calls answers. -/
def callsS (l0 : List S30) (l1 : List S59) : List S53 × Int × Int :=
  if 10000 < l0.length then ([], 2, -1) else if 60 < l1.length then ([], 2, -2) else
    if idx badPlace l1 0 < 0 then
      match callsRun l1 l0 0 [-1, -1, -1, -1] [] with
      | .error i => ([], 3, i)
      | .ok out => if 200 < out.length then ([], 10, -3) else (sortNear out, 0, 0)
    else ([], 3, -100 - idx badPlace l1 0)
theorem calls_f (l0 : List S30) (l1 : List S59) : sampling_Calls.f l0 l1 = some (callsS l0 l1) := rfl
theorem j7_end (E : List S30) (ls : List S59) (hn : E.length ≤ 10000) (hl : ls.length ≤ 60) : Ev (fun k => lawParts.j7 k E ls (callsS E ls).1 (callsS E ls).2.1 (callsS E ls).2.2 0 0) true := by
  obtain ⟨Q, hQ⟩ : ∃ Q, Q = callsS E ls := ⟨_, rfl⟩
  rw [← hQ]
  refine Ev.step (f := fun k => (linkhouselaw8_placesFault.f k ls).bind fun bt216 => (lawParts.j8 k E ls Q.1 Q.2.1 Q.2.2 bt216.1 bt216.2)) (fun k => by simp only [lawParts.j7, if_true]) ?_
  refine Ev.bind (lplaces_ev ls (by omega)) ?_
  unfold callsS at hQ
  rw [if_neg (by omega), if_neg (by omega)] at hQ
  subst hQ
  by_cases h3 : idx badPlace ls 0 < 0
  · rw [if_pos h3]
    have hz : pfI (idx badPlace ls 0) = (0, 0) := by unfold pfI; rw [if_pos h3]
    rw [hz]
    have hb := idx_no badPlace ls 0 (Int.le_refl _) h3
    by_cases h4 : idx badEv E 0 < 0
    · have hE := idx_no badEv E 0 (Int.le_refl _) h4
      have hEv : EvOk E := fun e he => by have := hE e he; simp only [badEv, decide_eq_false_iff_not] at this; omega
      obtain ⟨r, hr, hs, hlen⟩ := run_want ls E hE hb
      rw [hr]
      simp only
      by_cases h8 : ls.length ≤ 8
      · have h64 : ls.length * ls.length ≤ 8 * 8 := Nat.mul_le_mul h8 h8
        rw [if_neg (by omega), hs]
        refine Ev.step (f := fun k => lawParts.l2 k E ls (wantA ls E ls.length ls.length 0) ((0 : Nat) : Int) 0 0 0 0) (fun k => by simp only [lawParts.j8]; rfl) ?_
        refine l2_ok E ls hn _ 0 0 hE ?_ E 0 rfl (Nat.zero_le _)
        refine Ev.step (f := fun k => lawParts.j11 k E ls (wantA ls E ls.length ls.length 0) false 0 0 0 0) (fun k => ?_) ?_
        · simp only [lawParts.j10, Bool.false_eq_true, if_false, if_true]
          rw [decide_eq_false (by omega)]
        · refine Ev.step (f := fun k => lawParts.l3 k E ls (wantA ls E ls.length ls.length 0) [] ((0 : Nat) : Int) 0 0 0 0) (fun k => by simp only [lawParts.j11, Bool.false_eq_true, if_false]; rfl) ?_
          refine l3_ev ls E hEv h8 hb hn _ 0 0 0 (wantA ls E ls.length ls.length 0) ?_ ls.length 0 [] (by omega) (by simp) rfl
          exact j13_end E ls _ (by have := wantA_len ls E ls.length ls.length 0; omega) _ 0 0
      · have hgen : ∀ (C : List S53) (g0 g1 : Int), Ev (fun k => lawParts.j8 k E ls C g0 g1 0 0) true := by
          intro C g0 g1
          refine Ev.step (f := fun k => lawParts.l2 k E ls C ((0 : Nat) : Int) g0 g1 0 0) (fun k => by simp only [lawParts.j8]; rfl) ?_
          refine l2_ok E ls hn _ g0 g1 hE ?_ E 0 rfl (Nat.zero_le _)
          refine Ev.step (f := fun k => lawParts.j11 k E ls C true g0 g1 0 0) (fun k => ?_) ?_
          · simp only [lawParts.j10, Bool.false_eq_true, if_false, if_true]
            rw [decide_eq_true (by omega)]
          · refine Ev.step (f := fun k => (linkhouselaw8_sampled.f k).bind fun t => (some t)) (fun k => by simp only [lawParts.j11, if_true]) fin_ev
        exact hgen _ _ _
    · have hr := run_bad ls E 0 [-1, -1, -1, -1] [] h4
      have hr' : callsRun ls E 0 [-1, -1, -1, -1] [] = .error (idx badEv E 0) := hr
      rw [hr']
      simp only
      refine Ev.step (f := fun k => lawParts.l2 k E ls [] ((0 : Nat) : Int) 3 (idx badEv E 0) 0 0) (fun k => by simp only [lawParts.j8]; rfl) ?_
      exact l2_bad E ls hn (idx badEv E 0) E 0 rfl (Nat.zero_le _) h4 rfl
  · rw [if_neg h3]
    have hz : pfI (idx badPlace ls 0) = (3, -100 - idx badPlace ls 0) := by unfold pfI; rw [if_neg h3]
    rw [hz]
    exact err_j8 E ls 3 _ (by decide)
theorem j5_end (a : List S32) (E : List S30) (ls : List S59) (L : List Int) (i e0 e1 : Int) : Ev (fun k => lawParts.j5 k a E ls L (callsS E ls).1 i false (callsS E ls).2.1 (callsS E ls).2.2 e0 e1) true := by
  by_cases h1 : (E.length : Int) > 10000
  · refine Ev.step (f := fun k => lawParts.j7 k E ls (callsS E ls).1 (callsS E ls).2.1 (callsS E ls).2.2 2 (-1)) (fun k => ?_) ?_
    · simp only [lawParts.j5, Bool.false_eq_true, if_false]
      rw [if_pos h1]; rfl
    · have hc : callsS E ls = ([], 2, -1) := by unfold callsS; rw [if_pos (by omega)]
      rw [hc]
      refine Ev.step (f := fun k => lawParts.j8 k E ls [] 2 (-1) 2 (-1)) (fun k => ?_) (err_j8 E ls 2 (-1) (by decide))
      simp only [lawParts.j7]
      rw [if_neg (by decide)]
  · by_cases h2 : (ls.length : Int) > 60
    · refine Ev.step (f := fun k => lawParts.j7 k E ls (callsS E ls).1 (callsS E ls).2.1 (callsS E ls).2.2 2 (-2)) (fun k => ?_) ?_
      · simp only [lawParts.j5, Bool.false_eq_true, if_false]
        rw [if_neg h1, if_pos h2]; rfl
      · have hc : callsS E ls = ([], 2, -2) := by unfold callsS; rw [if_neg (by omega), if_pos (by omega)]
        rw [hc]
        refine Ev.step (f := fun k => lawParts.j8 k E ls [] 2 (-2) 2 (-2)) (fun k => ?_) (err_j8 E ls 2 (-2) (by decide))
        simp only [lawParts.j7]
        rw [if_neg (by decide)]
    · refine Ev.step (f := fun k => lawParts.j7 k E ls (callsS E ls).1 (callsS E ls).2.1 (callsS E ls).2.2 0 0) (fun k => ?_) (j7_end E ls (by omega) (by omega))
      simp only [lawParts.j5, Bool.false_eq_true, if_false]
      rw [if_neg h1, if_neg h2]
/-! #### the sums' loops -/
theorem one_part (p : S59) (x : Int) (hx : 0 ≤ x ∧ x ≤ 1048576) (hp : badPlace p = false) : Ev (fun k => linkhouseref8_PartOf.f k [p] x) (if inPlace x p = true then 0 else -1) := by
  have := partof_ev [p] x (by simp) hx (fun q hq => by obtain rfl := List.mem_singleton.1 hq; exact hp)
  simpa [idx] using this
theorem l1_ev (a : List S32) (ga : GoodP a) (E : List S30) (ls : List S59) (hl : ls.length ≤ 256) (hb : ∀ p ∈ ls, badPlace p = false) (L : List Int) (hL : L = ls.map (fun p => sumP a p)) (C : List S53) (g0 g1 : Int) (i : Nat) (hi : i < ls.length)
    (hN : Ev (fun k => lawParts.l0 k a E ls L C ((i + 1 : Nat) : Int) g0 g1 0 0) true) : ∀ (es : List S32) (m : Nat) (acc : Int), a.drop m = es → m ≤ a.length → 0 ≤ acc → acc ≤ m * 1000000 → acc + sumP es ls[i] = sumP a ls[i] →
      Ev (fun k => lawParts.l1 k a E ls L C i acc m g0 g1 0 0) true := by
  have hlen := ga.len
  have hwi : wrap64 ((i : Int) + 1) = ((i + 1 : Nat) : Int) := by rw [wrap_id (by omega) (by omega)]; rfl
  have hsl : (ls.take (((i + 1 : Nat) : Int).toNat)).drop ((i : Int).toNat) = [ls[i]] := by
    rw [Int.toNat_natCast, Int.toNat_natCast, List.take_succ_eq_append_getElem hi, List.drop_append_of_le_length (by simp; omega), List.drop_of_length_le (by simp; omega)]
    rfl
  have hbi := hb ls[i] (List.getElem_mem hi)
  intro es
  induction es with
  | nil =>
    intro m acc hd hm h0 h1 hs
    have hml := drop_nil_le hd
    have hLi : rd L (i : Int) = acc := by
      have : acc = sumP a ls[i] := by simpa [sumP] using hs
      rw [this, hL]
      simp [rd, hi]
    have hLl : L.length = ls.length := by rw [hL]; simp
    refine Ev.step (f := fun k => lawParts.l0 k a E ls L C ((i + 1 : Nat) : Int) g0 g1 0 0) (fun k => ?_) hN
    simp only [lawParts.l1]
    rw [if_neg (by omega), if_pos (by omega), if_pos (by omega), if_pos hLi, hwi]
  | cons e es ih =>
    intro m acc hd hm h0 h1 hs
    obtain ⟨hrd, hml, hd'⟩ := rd32 a m e es hd
    have hw : wrap64 ((m : Int) + 1) = ((m + 1 : Nat) : Int) := by rw [wrap_id (by omega) (by omega)]; rfl
    have he := ga.rng e (by rw [show e = a[m] from by rw [← hrd]; simp [rd_T32, hml]]; exact List.getElem_mem hml)
    have hwa : wrap64 (acc + e.f1) = acc + e.f1 := wrap_id (by omega) (by omega)
    refine Ev.step (f := fun k => (linkhouseref8_PartOf.f k [ls[i]] e.f0).bind fun t209 => (if t209 = 0 then (lawParts.l1 k a E ls L C i (acc + e.f1) ((m + 1 : Nat) : Int) g0 g1 0 0) else (lawParts.l1 k a E ls L C i acc ((m + 1 : Nat) : Int) g0 g1 0 0))) (fun k => ?_) ?_
    · simp only [lawParts.l1]
      rw [if_pos (by omega), if_pos (by omega), hwi, if_pos (by omega), if_pos (by omega), if_pos (by omega), hsl, hrd, hwa, hw]
    · refine Ev.bind (one_part ls[i] e.f0 ⟨by omega, by omega⟩ hbi) ?_
      by_cases hin : inPlace e.f0 ls[i] = true
      · simp only [if_pos hin, if_true]
        exact ih (m + 1) (acc + e.f1) hd' (by omega) (by omega) (by push_cast; omega) (by rw [← hs]; simp only [sumP]; rw [if_pos hin]; omega)
      · simp only [if_neg hin, show ¬ ((-1 : Int) = 0) from by decide, if_false]
        exact ih (m + 1) acc hd' (by omega) h0 (by push_cast; omega) (by rw [← hs]; simp only [sumP]; rw [if_neg hin]; omega)
theorem l0_ev (a : List S32) (ga : GoodP a) (E : List S30) (ls : List S59) (hl : ls.length ≤ 256) (hb : ∀ p ∈ ls, badPlace p = false) : ∀ (r i : Nat), i + r = ls.length → Ev (fun k => lawParts.l0 k a E ls (ls.map (fun p => sumP a p)) (callsS E ls).1 i (callsS E ls).2.1 (callsS E ls).2.2 0 0) true
  | 0, i, h => by
    refine Ev.step (f := fun k => lawParts.j5 k a E ls (ls.map (fun p => sumP a p)) (callsS E ls).1 i false (callsS E ls).2.1 (callsS E ls).2.2 0 0) (fun k => ?_) (j5_end a E ls _ _ 0 0)
    simp only [lawParts.l0]
    rw [if_neg (by omega)]
  | r + 1, i, h => by
    refine Ev.step (f := fun k => lawParts.j5 k a E ls (ls.map (fun p => sumP a p)) (callsS E ls).1 i true (callsS E ls).2.1 (callsS E ls).2.2 0 0) (fun k => ?_) ?_
    · simp only [lawParts.l0]
      rw [if_pos (by omega)]; rfl
    · refine Ev.step (f := fun k => lawParts.l1 k a E ls (ls.map (fun p => sumP a p)) (callsS E ls).1 i 0 ((0 : Nat) : Int) (callsS E ls).2.1 (callsS E ls).2.2 0 0) (fun k => by simp only [lawParts.j5, if_true]; rfl) ?_
      exact l1_ev a ga E ls hl hb _ rfl _ _ _ i (by omega) (l0_ev a ga E ls hl hb r (i + 1) (by omega)) a 0 0 rfl (Nat.zero_le _) (Int.le_refl _) (by simp) (by simp)
theorem l0_err (a : List S32) (E : List S30) (ls : List S59) (L : List Int) (e0 e1 : Int) (h : e0 ≠ 0) : Ev (fun k => lawParts.l0 k a E ls L (callsS E ls).1 0 (callsS E ls).2.1 (callsS E ls).2.2 e0 e1) true := by
  refine Ev.step (f := fun k => lawParts.j5 k a E ls L (callsS E ls).1 0 false (callsS E ls).2.1 (callsS E ls).2.2 e0 e1) (fun k => ?_) (j5_end a E ls _ _ e0 e1)
  simp only [lawParts.l0]
  rw [show (e0 == 0) = false from by simpa using h]
  split <;> rfl
theorem j2_err (a : List S32) (E : List S30) (ls : List S59) (e0 e1 : Int) (h : e0 ≠ 0) : Ev (fun k => lawParts.j2 k a E ls [] (callsS E ls).1 e0 e1 (callsS E ls).2.1 (callsS E ls).2.2 e0 e1) true := by
  refine Ev.step (f := fun k => lawParts.j3 k a E ls [] (callsS E ls).1 false (callsS E ls).2.1 (callsS E ls).2.2 e0 e1) (fun k => ?_) ?_
  · simp only [lawParts.j2]
    rw [if_neg (by simp), if_neg h, if_neg (by simp)]
  · refine Ev.step (f := fun k => lawParts.l0 k a E ls [] (callsS E ls).1 0 (callsS E ls).2.1 (callsS E ls).2.2 e0 e1) (fun k => ?_) (l0_err a E ls [] e0 e1 h)
    simp only [lawParts.j3, Bool.false_eq_true, if_false]
theorem j1_err (a : List S32) (E : List S30) (ls : List S59) (e0 e1 : Int) (h : e0 ≠ 0) : Ev (fun k => lawParts.j1 k a E ls [] (callsS E ls).1 e0 e1 (callsS E ls).2.1 (callsS E ls).2.2 e0 e1) true := by
  refine Ev.step (f := fun k => lawParts.j2 k a E ls [] (callsS E ls).1 e0 e1 (callsS E ls).2.1 (callsS E ls).2.2 e0 e1) (fun k => ?_) (j2_err a E ls e0 e1 h)
  simp only [lawParts.j1]
  rw [if_neg h]
theorem SamplingPartsMatchSpec (l0 : List S32) (h0 : l0.length ≤ 9223372036854775807) (l1 : List S30) (h1 : l1.length ≤ 9223372036854775807) (l2 : List S59) (h2 : l2.length ≤ 9223372036854775807) : ∃ k, lawParts.f k l0 l1 l2 = some true := by
  refine Ev.rounds (g := fun k => lawParts.f k l0 l1 l2) ?_
  refine Ev.bind (f := fun k bt185 => ((sampling_Calls.f l1 l2).bind fun bt191 => ((linkhouseref8_ProfileFault.f k l0).bind fun bt197 => (if bt197.1 = 0 then (lawParts.j0 k l0 l1 l2 bt185.1 bt191.1 (decide ((l2.length : Int) > 256)) bt185.2.1 bt185.2.2 bt191.2.1 bt191.2.2 bt197.1 bt197.2) else (lawParts.j0 k l0 l1 l2 bt185.1 bt191.1 false bt185.2.1 bt185.2.2 bt191.2.1 bt191.2.2 bt197.1 bt197.2))))) (parts_ev l0 l2) ?_
  simp only [calls_f, Option.bind_some]
  refine Ev.bind (pfault_ev l0) ?_
  unfold partsS
  by_cases c1 : vf l0 = (0, 0)
  · rw [if_neg (fun h => h c1), c1]
    simp only [if_true]
    by_cases c2 : 256 < l2.length
    · rw [if_pos c2]
      simp only
      rw [decide_eq_true (by omega)]
      refine Ev.step (f := fun k => lawParts.j1 k l0 l1 l2 [] (callsS l1 l2).1 2 (-2) (callsS l1 l2).2.1 (callsS l1 l2).2.2 2 (-2)) (fun k => ?_) (j1_err l0 l1 l2 2 (-2) (by decide))
      simp only [lawParts.j0, if_true]; rfl
    · rw [if_neg c2]
      rw [decide_eq_false (by omega)]
      obtain ⟨Q, hQ⟩ : ∃ Q, Q = (if idx badPlace l2 0 < 0 then (l2.map (fun p => sumP l0 p), 0, 0) else (([] : List Int), (3 : Int), -100 - idx badPlace l2 0)) := ⟨_, rfl⟩
      rw [← hQ]
      refine Ev.step (f := fun k => lawParts.j1 k l0 l1 l2 Q.1 (callsS l1 l2).1 Q.2.1 Q.2.2 (callsS l1 l2).2.1 (callsS l1 l2).2.2 0 0) (fun k => by simp only [lawParts.j0, Bool.false_eq_true, if_false]) ?_
      refine Ev.step (f := fun k => (linkhouselaw8_placesFault.f k l2).bind fun bt202 => (lawParts.j2 k l0 l1 l2 Q.1 (callsS l1 l2).1 Q.2.1 Q.2.2 (callsS l1 l2).2.1 (callsS l1 l2).2.2 bt202.1 bt202.2)) (fun k => by simp only [lawParts.j1, if_true]) ?_
      refine Ev.bind (lplaces_ev l2 (by omega)) ?_
      by_cases c3 : idx badPlace l2 0 < 0
      · rw [if_pos c3] at hQ
        subst hQ
        have hz : pfI (idx badPlace l2 0) = (0, 0) := by unfold pfI; rw [if_pos c3]
        rw [hz]
        refine Ev.step (f := fun k => lawParts.j3 k l0 l1 l2 (l2.map (fun p => sumP l0 p)) (callsS l1 l2).1 false (callsS l1 l2).2.1 (callsS l1 l2).2.2 0 0) (fun k => ?_) ?_
        · simp [lawParts.j2]
        · refine Ev.step (f := fun k => lawParts.l0 k l0 l1 l2 (l2.map (fun p => sumP l0 p)) (callsS l1 l2).1 ((0 : Nat) : Int) (callsS l1 l2).2.1 (callsS l1 l2).2.2 0 0) (fun k => by simp only [lawParts.j3, Bool.false_eq_true, if_false]; rfl) ?_
          exact l0_ev l0 ((vf_good l0).1 c1) l1 l2 (by omega) (idx_no badPlace l2 0 (Int.le_refl _) c3) l2.length 0 (by omega)
      · rw [if_neg c3] at hQ
        subst hQ
        have hz : pfI (idx badPlace l2 0) = (3, -100 - idx badPlace l2 0) := by unfold pfI; rw [if_neg c3]
        rw [hz]
        exact j2_err l0 l1 l2 3 _ (by decide)
  · rw [if_pos c1]
    have hne : (vf l0).1 ≠ 0 := fun h => c1 (vf_code h)
    simp only [if_neg hne]
    refine Ev.step (f := fun k => lawParts.j1 k l0 l1 l2 [] (callsS l1 l2).1 (vf l0).1 (vf l0).2 (callsS l1 l2).2.1 (callsS l1 l2).2.2 (vf l0).1 (vf l0).2) (fun k => ?_) (j1_err l0 l1 l2 _ _ hne)
    simp only [lawParts.j0, Bool.false_eq_true, if_false]
end Go.Proofs.Ytjchmckbhfoopaa.Pure
