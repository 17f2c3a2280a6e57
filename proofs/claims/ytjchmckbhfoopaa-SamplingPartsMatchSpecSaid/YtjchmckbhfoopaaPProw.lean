/- What sampling.Calls computes, in plain Lean, and its own row of api.Near as cells. Conditions: none. -/
import Derived.Test.YtjchmckbhfoopaaPPcl
namespace Go.Proofs.Ytjchmckbhfoopaa.PP
open Go.RowKit Go.Proofs.YtjchmckbhfoopaaW.PrintWords Go.Proofs.YtjchmckbhfoopaaW.PrintLast Go.Proofs.YtjchmckbhfoopaaW.PrintMore
set_option linter.unusedVariables false
set_option linter.unusedSimpArgs false
def cells53 (l : List S53) : List Value := l.flatMap (fun x => [Value.int .i64 x.f0, Value.int .i64 x.f1, Value.int .i64 x.f2])
theorem cells53_nil : cells53 [] = [] := rfl
theorem cells53_cons (x : S53) (l : List S53) : cells53 (x :: l) = .int .i64 x.f0 :: .int .i64 x.f1 :: .int .i64 x.f2 :: cells53 l := rfl
theorem cells53_length (l : List S53) : (cells53 l).length = l.length * 3 := by
  induction l with
  | nil => rfl
  | cons x xs ih => simp [cells53_cons, ih]; omega
theorem cells53_get (l : List S53) (i : Nat) (h : i < l.length) : (cells53 l)[i * 3]? = some (.int .i64 l[i].f0) ∧ (cells53 l)[i * 3 + 1]? = some (.int .i64 l[i].f1) ∧ (cells53 l)[i * 3 + 2]? = some (.int .i64 l[i].f2) := by
  induction l generalizing i with
  | nil => simp at h
  | cons x xs ih =>
    cases i with
    | zero => simp [cells53_cons]
    | succ i =>
      have := ih i (by simpa using h)
      rw [cells53_cons, Nat.add_mul, Nat.one_mul]
      simpa using this
theorem cells53_set (l : List S53) (i : Nat) (h : i < l.length) (u : Int) : (cells53 l).set (i * 3 + 2) (.int .i64 u) = cells53 (l.set i ⟨l[i].f0, l[i].f1, u⟩) := by
  induction l generalizing i with
  | nil => simp at h
  | cons x xs ih =>
    cases i with
    | zero => simp [cells53_cons]
    | succ i =>
      have := ih i (by simpa using h)
      rw [cells53_cons, Nat.add_mul, Nat.one_mul]
      simp only [List.set_cons_succ, List.getElem_cons_succ, cells53_cons]
      rw [← this]
theorem reps53 {w : World} {base : Nat} {ok : Nat → Prop} {xs : List S53} : ∀ {inner : List Value}, Reps (k53.M w base ok) 3 xs inner → inner = cells53 xs := by
  induction xs with
  | nil =>
    intro inner h
    have := h.1
    simp at this
    rw [this]; rfl
  | cons x xs ih =>
    intro inner h
    have hl := h.1
    have h0 := k53_openM (h.2 0 x rfl)
    simp only [Nat.zero_mul, List.drop_zero] at h0
    have hd : Reps (k53.M w base ok) 3 xs (inner.drop 3) := by
      refine ⟨by rw [List.length_drop, hl]; simp; omega, fun j p hj => ?_⟩
      have := h.2 (j + 1) p (by simpa using hj)
      rw [List.drop_drop]
      rw [show 3 + j * 3 = (j + 1) * 3 from by omega]
      exact this
    rw [← List.take_append_drop 3 inner, h0, ih hd]
    rfl
theorem reps53_mk (w : World) (base : Nat) (ok : Nat → Prop) (xs : List S53) : Reps (k53.M w base ok) 3 xs (cells53 xs) := by
  refine ⟨cells53_length xs, fun j p hj => ?_⟩
  obtain ⟨hjl, rfl⟩ := List.getElem?_eq_some_iff.1 hj
  have hg := cells53_get xs j hjl
  have e : ((cells53 xs).drop (j * 3)).take 3 = [.int .i64 xs[j].f0, .int .i64 xs[j].f1, .int .i64 xs[j].f2] := by
    apply List.ext_getElem?
    intro m
    rw [List.getElem?_take]
    match m with
    | 0 => simpa [List.getElem?_drop] using hg.1
    | 1 => simpa [List.getElem?_drop] using hg.2.1
    | 2 => simpa [List.getElem?_drop] using hg.2.2
    | m + 3 => simp; omega
  rw [e]
  exact k53_mkM w base ok _
theorem R53_raw {w : World} {base : Nat} {ok : Nat → Prop} {v : Value} {xs : List S53} (h : Kd.R k53 53 w base ok v xs) : w.ownsRow base 53 3 v xs.length (cells53 xs) := by
  obtain ⟨_, inner, ho, hr⟩ := h
  rw [← reps53 hr]; exact ho
theorem R53_mk {w : World} {base : Nat} {v : Value} {xs : List S53} (h : w.ownsRow base 53 3 v xs.length (cells53 xs)) : Kd.R k53 53 w base (fun _ => True) v xs :=
  ⟨fun _ _ => trivial, cells53 xs, h, reps53_mk _ _ _ _⟩
/-! #### the plain function -/
def badEv (e : S30) : Bool := decide (e.f0 < 0 ∨ 4 ≤ e.f0 ∨ e.f1 < -1 ∨ 1048576 ≤ e.f1)
def bump (a b : Int) (l : List S53) : List S53 :=
  if idx (isNear a b) l 0 < 0 then l ++ [⟨a, b, 1⟩] else l.set (idx (isNear a b) l 0).toNat ⟨(rd_T53 l (idx (isNear a b) l 0)).f0, (rd_T53 l (idx (isNear a b) l 0)).f1, (rd_T53 l (idx (isNear a b) l 0)).f2 + 1⟩
/-- This event does not count. -/
def passes (ls : List S59) (fr t ad : Int) : Bool := decide (fr < 0 ∨ t < 0 ∨ fr = t ∨ ad ≠ (rd_T59 ls t).f0)
def callsRun (ls : List S59) : List S30 → Int → List Int → List S53 → Except Int (List S53)
  | [], _, _, out => .ok out
  | e :: es, i, la, out =>
    if badEv e = true then .error i
    else if e.f1 = -1 then callsRun ls es (i + 1) la out
    else if passes ls (la.getD e.f0.toNat 0) (idx (inPlace e.f1) ls 0) e.f1 = true then callsRun ls es (i + 1) (la.set e.f0.toNat (idx (inPlace e.f1) ls 0)) out
    else callsRun ls es (i + 1) (la.set e.f0.toNat (idx (inPlace e.f1) ls 0)) (bump (la.getD e.f0.toNat 0) (idx (inPlace e.f1) ls 0) out)
def leNear (x y : S53) : Bool := decide (keyCmp x.f0 x.f1 y.f0 y.f1 ≤ 0)
def sortNear (l : List S53) : List S53 := l.mergeSort leNear
def badPlace (p : S59) : Bool := decide (p.f0 < 0 ∨ 1048576 ≤ p.f0 ∨ p.f1 < 0 ∨ 1048576 < p.f1)
def pfault (l : List S59) : Int × Int := if idx badPlace l 0 < 0 then (0, 0) else (3, -100 - idx badPlace l 0)
def sampling_Calls.f (l0 : List (S30)) (l1 : List (S59)) : Option (List (S53) × Int × Int) :=
  some (if 10000 < l0.length then ([], 2, -1) else if 60 < l1.length then ([], 2, -2) else
    if idx badPlace l1 0 < 0 then
      match callsRun l1 l0 0 [-1, -1, -1, -1] [] with
      | .error i => ([], 3, i)
      | .ok out => if 200 < out.length then ([], 10, -3) else (sortNear out, 0, 0)
    else ([], 3, -100 - idx badPlace l1 0))
/-! #### bounds that hold at every event -/
theorem idx_range {α : Type} (p : α → Bool) (l : List α) (i : Int) : idx p l i = -1 ∨ (i ≤ idx p l i ∧ idx p l i < i + l.length) := by
  induction l generalizing i with
  | nil => exact .inl rfl
  | cons x xs ih =>
    unfold idx
    split
    · exact .inr (by simp; omega)
    · rcases ih (i + 1) with h | h
      · exact .inl h
      · exact .inr (by simp; omega)
theorem idx_yes {α : Type} (p : α → Bool) (l : List α) (i : Int) (h : 0 ≤ i) (hn : ¬ idx p l i < 0) : ∃ hj : (idx p l i - i).toNat < l.length, p l[(idx p l i - i).toNat] = true := by
  induction l generalizing i with
  | nil => simp [idx] at hn
  | cons x xs ih =>
    by_cases hp : p x = true
    · have e : idx p (x :: xs) i = i := by simp [idx, hp]
      rw [e]
      simp [hp]
    · have e : idx p (x :: xs) i = idx p xs (i + 1) := by simp [idx, hp]
      rw [e] at hn ⊢
      obtain ⟨hj, hy⟩ := ih (i + 1) (by omega) hn
      have hr := idx_range p xs (i + 1)
      have e2 : (idx p xs (i + 1) - i).toNat = (idx p xs (i + 1) - (i + 1)).toNat + 1 := by omega
      refine ⟨by rw [e2]; simp; omega, ?_⟩
      simp only [e2, List.getElem_cons_succ]
      exact hy
theorem idx_no {α : Type} (p : α → Bool) (l : List α) (i : Int) (h : 0 ≤ i) (hn : idx p l i < 0) : ∀ x ∈ l, p x = false := by
  induction l generalizing i with
  | nil => simp
  | cons y xs ih =>
    by_cases hp : p y = true
    · have e : idx p (y :: xs) i = i := by simp [idx, hp]
      omega
    · have e : idx p (y :: xs) i = idx p xs (i + 1) := by simp [idx, hp]
      rw [e] at hn
      intro x hx
      rcases List.mem_cons.1 hx with rfl | hx
      · simpa using hp
      · exact ih (i + 1) (by omega) hn x hx
structure Inv (n : Nat) (i : Int) (la : List Int) (out : List S53) : Prop where
  len : la.length = 4
  lab : ∀ x ∈ la, -1 ≤ x ∧ x < n
  ob : ∀ x ∈ out, 0 ≤ x.f0 ∧ x.f0 < n ∧ 0 ≤ x.f1 ∧ x.f1 < n ∧ 1 ≤ x.f2 ∧ x.f2 ≤ i
  keys : out.Pairwise (fun x y => ¬ (x.f0 = y.f0 ∧ x.f1 = y.f1))
  cnt : (out.length : Int) ≤ i
theorem Inv.next {n : Nat} {i : Int} {la : List Int} {out : List S53} (h : Inv n i la out) : Inv n (i + 1) la out :=
  ⟨h.len, h.lab, fun x hx => by have := h.ob x hx; omega, h.keys, by have := h.cnt; omega⟩
theorem Inv.setLa {n : Nat} {i : Int} {la : List Int} {out : List S53} (h : Inv n i la out) (k : Nat) (x : Int) (hx : -1 ≤ x ∧ x < n) : Inv n i (la.set k x) out :=
  ⟨by rw [List.length_set]; exact h.len, fun y hy => by
    rcases List.mem_or_eq_of_mem_set hy with hy | rfl
    · exact h.lab y hy
    · exact hx, h.ob, h.keys, h.cnt⟩
theorem Inv.bump {n : Nat} {i : Int} {la : List Int} {out : List S53} (h : Inv n i la out) (a b : Int) (ha : 0 ≤ a ∧ a < n) (hb : 0 ≤ b ∧ b < n) (hi : 0 ≤ i) : Inv n (i + 1) la (bump a b out) := by
  unfold PP.bump
  split
  · rename_i hn
    have hno := idx_no _ _ _ (by omega) hn
    refine ⟨h.len, h.lab, fun x hx => ?_, ?_, ?_⟩
    · rcases List.mem_append.1 hx with hx | hx
      · have := h.ob x hx; omega
      · obtain rfl := List.mem_singleton.1 hx
        simp; omega
    · rw [List.pairwise_append]
      refine ⟨h.keys, by simp, fun x hx y hy => ?_⟩
      obtain rfl := List.mem_singleton.1 hy
      have := hno x hx
      simpa [isNear] using this
    · have := h.cnt; simp; omega
  · rename_i hn
    obtain ⟨hj, hy⟩ := idx_yes _ _ _ (by omega) hn
    simp only [Int.sub_zero] at hj hy
    obtain ⟨j, hJ⟩ : ∃ j, j = (idx (isNear a b) out 0).toNat := ⟨_, rfl⟩
    have hJ' : idx (isNear a b) out 0 = (j : Int) := by omega
    rw [← hJ] at hj
    have hrd : rd_T53 out (idx (isNear a b) out 0) = out[j] := by rw [hJ', rd53 out j hj]
    rw [hrd, ← hJ]
    have ho := h.ob out[j] (List.getElem_mem hj)
    refine ⟨h.len, h.lab, fun x hx => ?_, ?_, by rw [List.length_set]; have := h.cnt; omega⟩
    · rcases List.mem_or_eq_of_mem_set hx with hx | rfl
      · have := h.ob x hx; omega
      · simp; omega
    · rw [List.pairwise_iff_getElem]
      intro p q hp hq hpq
      have hk := List.pairwise_iff_getElem.1 h.keys p q (by simpa using hp) (by simpa using hq) hpq
      have hkey : ∀ (u : Int) (m : Nat) (hm : m < out.length), ((out.set j ⟨out[j].f0, out[j].f1, u⟩)[m]'(by simpa using hm)).f0 = out[m].f0 ∧ ((out.set j ⟨out[j].f0, out[j].f1, u⟩)[m]'(by simpa using hm)).f1 = out[m].f1 := by
        intro u m hm
        rw [List.getElem_set]
        split
        · rename_i e; subst e; exact ⟨rfl, rfl⟩
        · exact ⟨rfl, rfl⟩
      have h1 := hkey (out[j].f2 + 1) p (by simpa using hp)
      have h2 := hkey (out[j].f2 + 1) q (by simpa using hq)
      rw [h1.1, h1.2, h2.1, h2.2]
      exact hk
end Go.Proofs.Ytjchmckbhfoopaa.PP
