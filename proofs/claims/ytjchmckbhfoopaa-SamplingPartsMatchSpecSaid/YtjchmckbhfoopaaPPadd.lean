/- The contracts of sampling.add (a sorted profile with one count more: slices.BinarySearchFunc and slices.Insert walked) and of slices.Clone at []api.Sample. Conditions: addresses that rise, in a range in which no difference wraps. -/
import Derived.Test.YtjchmckbhfoopaaPPx0
import Derived.Lib.Overlaps
import Derived.Lib.AppendZerosOnto
import Derived.Laws.NewBlocks
import Derived.Deep.RegionLaw
import Derived.Laws.CopyOwn
import Derived.Deep.DeepMust
import Derived.WalkSpells
namespace Go.Proofs.Ytjchmckbhfoopaa.PP
open Go.RowKit Go.Proofs.YtjchmckbhfoopaaW.PrintWords Go.Proofs.YtjchmckbhfoopaaW.PrintLast Go.Proofs.YtjchmckbhfoopaaW.PrintMore
set_option linter.unusedVariables false
set_option linter.unusedSimpArgs false
/-- How many of a sorted row's addresses lie below a. -/
def posOf : List S32 → Int → Nat
  | [], _ => 0
  | x :: xs, a => if x.f0 < a then posOf xs a + 1 else 0
theorem posOf_le (l : List S32) (a : Int) : posOf l a ≤ l.length := by
  induction l with
  | nil => simp [posOf]
  | cons x xs ih => unfold posOf; split <;> simp <;> omega
theorem posOf_lt (l : List S32) (a : Int) (j : Nat) (h : j < posOf l a) : (rd_T32 l (j : Int)).f0 < a := by
  induction l generalizing j with
  | nil => simp [posOf] at h
  | cons x xs ih =>
    unfold posOf at h
    split at h
    · cases j with
      | zero => simpa [rd_T32] using ‹x.f0 < a›
      | succ j => have := ih j (by omega); simpa [rd_T32] using this
    · omega
theorem posOf_ge (l : List S32) (a : Int) (hs : l.Pairwise (fun x y => x.f0 < y.f0)) (j : Nat) (h : posOf l a ≤ j) (hj : j < l.length) : a ≤ (rd_T32 l (j : Int)).f0 := by
  induction l generalizing j with
  | nil => simp at hj
  | cons x xs ih =>
    rw [List.pairwise_cons] at hs
    unfold posOf at h
    split at h
    · cases j with
      | zero => omega
      | succ j => have := ih hs.2 j (by omega) (by simpa using hj); simpa [rd_T32] using this
    · cases j with
      | zero => simp [rd_T32]; omega
      | succ j =>
        have hj' : j < xs.length := by simpa using hj
        have := hs.1 xs[j] (List.getElem_mem hj')
        have e : (rd_T32 (x :: xs) ((j + 1 : Nat) : Int)).f0 = xs[j].f0 := by simp [rd_T32, hj']
        rw [e]; omega
theorem rd_mem (l : List S32) (j : Nat) (h : j < l.length) : rd_T32 l (j : Int) ∈ l := by
  have e : rd_T32 l (j : Int) = l[j] := by simp [rd_T32, h]
  rw [e]; exact List.getElem_mem h
set_option maxHeartbeats 400000 in
theorem cmp35 (x0 x1 a : Int) (w : World) (h0 : 0 ≤ x0) (h1 : x0 ≤ 1048576) (h2 : 0 ≤ a) (h3 : a ≤ 1048576) :
    Calls Try.prog 35 #[.agg #[.int .i64 x0, .int .i64 x1], .int .i64 a] w fun e w' => e = .returned (.int .i64 (x0 - a)) ∧ w' = w.alloc (.cells #[.int .i64 x0, .int .i64 x1] 32) := by
  go_enter Try.func35, Try.ntmps35
  go_wp2
  go_ret
  exact ⟨rfl, rfl⟩
def Found (l : List S32) (a : Int) (w : World) (e : Ending) (w' : World) : Prop :=
  e = .returned (.tuple #[.int .i64 (posOf l a), .bool (decide (posOf l a < l.length ∧ (rd_T32 l (posOf l a : Int)).f0 = a))]) ∧ Below w.heap.size w w'
set_option maxHeartbeats 1000000 in
set_option maxRecDepth 100000 in
theorem search34 (A0 : Option Addr) (c0 : Nat) (l0 : List S32) (a : Int) (w : World) (hr0 : Kd.C k32 w A0 l0.length l0) (hc0 : l0.length ≤ c0)
    (hb : ∀ x ∈ l0, 0 ≤ x.f0 ∧ x.f0 ≤ 1048576) (h2 : 0 ≤ a) (h3 : a ≤ 1048576) (hs : l0.Pairwise (fun x y => x.f0 < y.f0)) (hl : l0.length < 8000000000000) :
    Calls Try.prog 34 #[.slice A0 l0.length c0, .int .i64 a, .func (.func 35) #[] #[]] w (Found l0 a w) := by
  have HR0 := Aside0.mk hr0
  have HB := Aside0.mk hb
  have HS := Aside0.mk hs
  clear hr0 hb hs
  go_enter Try.func34, Try.ntmps34
  go_wp2
  go_loopw [9, 10] (fun v9 v10 wr => ∃ i j : Nat, i ≤ posOf l0 a ∧ posOf l0 a ≤ j ∧ j ≤ l0.length ∧ v9 = .int .i64 i ∧ v10 = .int .i64 j ∧ Below w.heap.size w wr) (fun v9 v10 _ => (intOf v10).toNat - (intOf v9).toNat)
  case atStart => exact ⟨0, l0.length, Nat.zero_le _, posOf_le _ _, Nat.le_refl _, rfl, rfl, Below.refl _ _⟩
  case round =>
    obtain ⟨i, j, hi, hj, hjl, rfl, rfl, hbel⟩ := hrel
    by_cases hij : i < j
    · have hh1 : i ≤ (i + j) / 2 := by omega
      have hh2 : (i + j) / 2 < j := by omega
      obtain ⟨ad, e, hx0, hx1⟩ := at_T32 (Kd.C_below HR0.out hbel) (((i + j) / 2 : Nat) : Int) (by omega) (by omega)
      simp only [Int.toNat_natCast] at hx0 hx1
      cases e
      have hbm := HB.out _ (rd_mem l0 ((i + j) / 2) (by omega))
      obtain ⟨x0, hX0⟩ : ∃ x, x = (rd_T32 l0 (((i + j) / 2 : Nat) : Int)).f0 := ⟨_, rfl⟩
      obtain ⟨x1, hX1⟩ : ∃ x, x = (rd_T32 l0 (((i + j) / 2 : Nat) : Int)).f1 := ⟨_, rfl⟩
      rw [← hX0] at hx0 hbm
      rw [← hX1] at hx1
      have HX0 := Aside0.mk hX0
      clear hX0 hX1
      by_cases hlt : x0 - a < 0
      · have hp : (i + j) / 2 + 1 ≤ posOf l0 a := by
          have hx := HX0.out
          rcases Nat.lt_or_ge ((i + j) / 2) (posOf l0 a) with hq | hq
          · omega
          · have := posOf_ge l0 a HS.out ((i + j) / 2) hq (by omega)
            omega
        go_wp2_with (go_at_call 35; refine (cmp35 x0 x1 a _ hbm.1 hbm.2 h2 h3).mono ?_; rintro e w' ⟨rfl, rfl⟩)
        go_roundw
        case rel => exact ⟨(i + j) / 2 + 1, j, hp, hj, hjl, by go_num, rfl, hbel.trans ((Below.refl _ _).alloc hbel.size _)⟩
        case measure => simp [intOf]; omega
      · have hp : posOf l0 a ≤ (i + j) / 2 := by
          have hx := HX0.out
          rcases Nat.lt_or_ge ((i + j) / 2) (posOf l0 a) with hq | hq
          · have := posOf_lt l0 a ((i + j) / 2) hq
            omega
          · exact hq
        go_wp2_with (go_at_call 35; refine (cmp35 x0 x1 a _ hbm.1 hbm.2 h2 h3).mono ?_; rintro e w' ⟨rfl, rfl⟩)
        go_roundw
        case rel => exact ⟨i, (i + j) / 2, hi, hp, by omega, rfl, by go_num, hbel.trans ((Below.refl _ _).alloc hbel.size _)⟩
        case measure => simp [intOf]; omega
    · obtain rfl : i = j := by omega
      obtain rfl : i = posOf l0 a := by omega
      obtain ⟨i, hI⟩ : ∃ i, i = posOf l0 a := ⟨_, rfl⟩
      by_cases hlen : i < l0.length
      · obtain ⟨ad, e, hx0, hx1⟩ := at_T32 (Kd.C_below HR0.out hbel) ((i : Nat) : Int) (by omega) (by omega)
        simp only [Int.toNat_natCast] at hx0 hx1
        cases e
        have hbm := HB.out _ (rd_mem l0 i (by omega))
        obtain ⟨x0, hX0⟩ : ∃ x, x = (rd_T32 l0 ((i : Nat) : Int)).f0 := ⟨_, rfl⟩
        obtain ⟨x1, hX1⟩ : ∃ x, x = (rd_T32 l0 ((i : Nat) : Int)).f1 := ⟨_, rfl⟩
        rw [← hX0] at hx0 hbm
        rw [← hX1] at hx1
        have HX0 := Aside0.mk hX0
        have HI := Aside0.mk hI
        clear hX0 hX1
        rw [← hI]
        clear hI
        go_wp2_with (go_at_call 35; refine (cmp35 x0 x1 a _ hbm.1 hbm.2 h2 h3).mono ?_; rintro e w' ⟨rfl, rfl⟩)
        go_ret2
        refine ⟨?_, hbel.trans ((Below.refl _ _).alloc hbel.size _)⟩
        rw [← HI.out]
        have hb : (x0 - a == 0) = decide (i < l0.length ∧ (rd_T32 l0 (i : Int)).f0 = a) := by
          rw [← HX0.out, Bool.eq_iff_iff]; simp [hlen]; omega
        rw [hb]; rfl
      · have HI := Aside0.mk hI
        rw [← hI]
        clear hI
        have hd : decide (i < l0.length) = false := by simp; omega
        go_wp2_with fail
        go_ret2
        refine ⟨?_, hbel⟩
        rw [← HI.out]
        have hb : false = decide (i < l0.length ∧ (rd_T32 l0 (i : Int)).f0 = a) := by
          rw [Bool.eq_iff_iff]; simp; omega
        rw [hb]; rfl

/-! #### copy, of elements of more than one cell -/
section
variable {P : Program}
theorem xwp_copy (w : World) {o : Oper} {a : Act} {K : Act → World → Prop} {Q : Exit → Act → World → Prop} (d s : Operand) (t t' : TypeId)
    (ho : o.op = .call { callee := .builtin .copy, args := #[d, s], argTypes := #[t, t'] }) (v u : Value) (hd : a.eval d = v) (hs : a.eval s = u) {v' : Value} {w' : World}
    (hr : (Builtin.copy_ #[t, t'] o.type #[v, u]).run P w = .ok v' w') (h : K (a.put o.dst v') w') : o.wp P a w K Q := by
  unfold Oper.wp execOp
  simp only [ho, resolve, invoke, builtin, Sem.run_bind, Sem.run_pure, Result.andThen_ok, List.map_toArray, List.map_cons, List.map_nil, hd, hs, hr]
  exact h
theorem xwpList_copy (w : World) {ops : Array Oper} {rest : List Oper} {o : Oper} {a : Act} {Q : Exit → Act → World → Prop} (hgd : o.guard = none) (d s : Operand) (t t' : TypeId)
    (ho : o.op = .call { callee := .builtin .copy, args := #[d, s], argTypes := #[t, t'] }) (v u : Value) (hd : a.eval d = v) (hs : a.eval s = u) {v' : Value} {w' : World}
    (hr : (Builtin.copy_ #[t, t'] o.type #[v, u]).run P w = .ok v' w') (h : wpList P ops Q rest (a.put o.dst v') w') : wpList P ops Q (o :: rest) a w :=
  wpList_plain hgd fun _ hK => xwp_copy w d s t t' ho v u hd hs hr (hK _ _ h)
theorem xstep_copy {ops : Array Oper} {o : Oper} {a : Act} {w : World} {K : Act → World → Prop} {Q : Exit → Act → World → Prop} {E : Prop}
    (hg : o.guard = none) (d x : Operand) (dT sT : TypeId) (hop : o.op = Op.call { callee := Callee.builtin Builtin.copy, args := #[d, x], argTypes := #[dT, sT] })
    (v u : Value) (hd : a.eval d = v) (hx : a.eval x = u) {v' : Value} {w' : World} (hr : (Builtin.copy_ #[dT, sT] o.type #[v, u]).run P w = .ok v' w') (hK : K (a.put o.dst v') w') :
    if Region.wanted o (yielded ops a.tmps) = true then Oper.wp P o a w K Q else E := by
  have hw : Region.wanted o (yielded ops a.tmps) = true := by simp [Region.wanted, hg]
  rw [if_pos hw]
  exact xwp_copy w d x dT sT hop v u hd hx hr hK
theorem xrun_copy (w : World) (dT sT ty elem : TypeId) (g o dLen dCap : Nat) (a : Addr) (sLen sCap sz : Nat) (cur : Array Value) (t : TypeId) (cs : List Value)
    (hu : P.underlying dT = some (.slice elem)) (hs : (P.info? elem).map (·.size) = some sz)
    (hg : w.heap[g]? = some (.cells cur t (0, 0))) (hn : cs.length = Nat.min sLen dLen * sz)
    (hsrc : ∀ j v, cs[j]? = some v → w.cell? (a.add j) = some v) (hfit : o + cs.length ≤ cur.size) (h1 : ∀ v ∈ cs, v.oneCell' = true) :
    (Builtin.copy_ #[dT, sT] ty #[.slice (some ⟨g, o, none⟩) dLen dCap, .slice (some a) sLen sCap]).run P w =
      .ok (goInt (Nat.min sLen dLen)) (w.setRow g (splice cur.toList o cs).toArray) := by
  have hl := run_loadCells_list (P := P) w a cs hsrc
  have hst := run_storeCells_at P g o t cs 0 cur w hg (by simpa using hfit) h1
  cases hq : P.info? elem with
  | none => simp [hq] at hs
  | some i =>
    have hi : i.size = sz := by simpa [hq] using hs
    simp [Builtin.copy_, run_underlying hu, Builtin.lenOf, Builtin.firstCells, sizeOf, typeInfo, hq, hi, ← hn, hl, hst, splice]
end
theorem xgrown_setRow (w : World) (g : Nat) (cs : Array Value) : w.grownBy (w.setRow g cs) (some g) :=
  ⟨rfl, rfl, rfl, by simp [World.setRow], fun k _ hne => setRow_other w g k cs (fun e => hne (by rw [e]))⟩
theorem take3 {α : Type} (P X D R : List α) (k : Nat) (h : k = P.length + X.length + D.length) : (P ++ (X ++ (D ++ R))).take k = P ++ X ++ D := by
  have e : P ++ (X ++ (D ++ R)) = (P ++ X ++ D) ++ R := by simp
  rw [e, List.take_left' (by simp; omega)]
theorem ins_splice (inner rest : List Value) (n i : Nat) (x0 x1 : Value) (hl : inner.length = n * 2) (hi : i < n) :
    (splice (splice (inner ++ rest) ((i + 1) * 2) (inner.drop (i * 2))) (i * 2) [x0, x1]).take ((n + 1) * 2) = inner.take (i * 2) ++ [x0, x1] ++ inner.drop (i * 2) := by
  obtain ⟨D, hD⟩ : ∃ D, D = inner.drop (i * 2) := ⟨_, rfl⟩
  have hDl : D.length = (n - i) * 2 := by rw [hD, List.length_drop, hl]; omega
  rw [← hD]
  have hT : ((inner ++ rest).take ((i + 1) * 2)).length = i * 2 + [x0, x1].length := by rw [List.length_take, List.length_append, hl]; simp; omega
  unfold splice
  obtain ⟨T, hTT⟩ : ∃ T, T = (inner ++ rest).take ((i + 1) * 2) := ⟨_, rfl⟩
  obtain ⟨R, hR⟩ : ∃ R, R = List.drop ((i + 1) * 2 + D.length) (inner ++ rest) := ⟨_, rfl⟩
  rw [← hTT, ← hR]
  rw [← hTT] at hT
  have e1 : (T ++ (D ++ R)).take (i * 2) = inner.take (i * 2) := by
    rw [List.take_append_of_le_length (by rw [hT]; simp), hTT, List.take_take, Nat.min_eq_left (by omega), List.take_append_of_le_length (by omega)]
  have e2 : (T ++ (D ++ R)).drop (i * 2 + [x0, x1].length) = D ++ R := by rw [← hT, List.drop_left]
  rw [e1, e2]
  exact take3 _ _ _ _ _ (by rw [List.length_take, hDl, hl]; simp; omega)
theorem grow_splice (inner rest : List Value) (n i : Nat) (x0 x1 : Value) (hl : inner.length = n * 2) (hi : i < n) (hr : 2 ≤ rest.length) :
    (splice (splice (inner.take (i * 2) ++ rest) (i * 2) [x0, x1]) ((i + 1) * 2) (inner.drop (i * 2))).take ((n + 1) * 2) = inner.take (i * 2) ++ [x0, x1] ++ inner.drop (i * 2) := by
  obtain ⟨D, hD⟩ : ∃ D, D = inner.drop (i * 2) := ⟨_, rfl⟩
  have hDl : D.length = (n - i) * 2 := by rw [hD, List.length_drop, hl]; omega
  rw [← hD]
  obtain ⟨T, hT⟩ : ∃ T, T = inner.take (i * 2) := ⟨_, rfl⟩
  have hTl : T.length = i * 2 := by rw [hT, List.length_take]; omega
  rw [← hT]
  unfold splice
  rw [List.take_left' hTl]
  obtain ⟨R, hR⟩ : ∃ R, R = List.drop (i * 2 + [x0, x1].length) (T ++ rest) := ⟨_, rfl⟩
  rw [← hR]
  have e : (T ++ ([x0, x1] ++ R)).take ((i + 1) * 2) = T ++ [x0, x1] := by
    rw [← List.append_assoc]
    exact List.take_left' (by simp; omega)
  rw [e, List.append_assoc T]
  exact take3 _ _ _ _ _ (by rw [hTl, hDl]; simp; omega)
/-- What Insert leaves: the row with the new cells, in the same block or in a new one. -/
def Ins (base : Nat) (W : World) (v : Value) (n : Nat) (xs : List Value) (e : Ending) (W' : World) : Prop :=
  ∃ v', e = .returned v' ∧ W'.ownsRow base 32 2 v' (n + 1) xs ∧ W.grownBy W' v.ownBlock ∧ (v'.ownBlock = v.ownBlock ∨ ∃ b, v'.ownBlock = some b ∧ W.heap.size ≤ b)
theorem xinfo32 : (Try.prog.info? 32).map (fun i => (i.zero, i.size, i.bytes)) = some (some (.agg #[(.int .i64 0), (.int .i64 0)]), 2, 16) := by kernel_rfl
set_option maxHeartbeats 1000000 in
set_option maxRecDepth 100000 in
theorem insert_end (base : Nat) (W : World) (v : Value) (n : Nat) (inner : List Value) (x0 x1 : Value) (vb : Nat) (hown : W.ownsRow base 32 2 v n inner) (hv : W.heap[vb]? = some (.cells #[x0, x1] 32 (0, 0)))
    (ho0 : x0.oneCell' = true) (ho1 : x1.oneCell' = true) (hn : n < 8000000000000) (hbase : base ≤ W.heap.size) :
    Calls Try.prog 36 #[v, .int .i64 n, .slice (some ⟨vb, 0, none⟩) 1 1] W (Ins base W v n (inner ++ [x0, x1])) := by
  obtain ⟨A, c, rfl⟩ := own_slice hown
  obtain ⟨i0, hi, hz0, hz1, hz2⟩ := info_parts xinfo32
  have hnc := own_le hown
  have hcells : ∀ j u, [x0, x1][j]? = some u → W.cell? ((⟨vb, 0, none⟩ : Addr).add j) = some u := by
    have h := World.news_of_block (cs := #[x0, x1]) hv
    simpa using h
  have HC := Aside0.mk hcells
  have HO := Aside0.mk hown
  have HV := Aside0.mk hv
  have h1c : ∀ u ∈ [x0, x1], u.oneCell' = true := by simp [ho0, ho1]
  clear hown hv hcells
  by_cases hcn : c = n
  · subst hcn
    go_enter Try.func36, Try.ntmps36
    go_wp2_with (at_builtin; refine wpList_append_own_at _ rfl (.tmp 23) (.tmp 24) 23 rfl base 32 i0 _ 2 16 Try.underlying23 hi hz0 hz1 hz2 rfl (by decide) _ _ inner rfl HO.out ⟨vb, 0, none⟩ 1 1 [x0, x1] rfl rfl HC.out h1c (by unfold maxLen; omega) (by omega) hbase ?_; intro v1 W1 hown1 hg1 _ hat1)
    all_goals
      go_ret
      exact ⟨_, rfl, hown1, hg1, hat1.imp id (fun h => ⟨_, h, Nat.le_refl _⟩)⟩
  · go_enter Try.func36, Try.ntmps36
    go_wp2_with (at_builtin; refine wpList_append_own_at _ rfl (.tmp 23) (.tmp 24) 23 rfl base 32 i0 _ 2 16 Try.underlying23 hi hz0 hz1 hz2 rfl (by decide) _ _ inner rfl HO.out ⟨vb, 0, none⟩ 1 1 [x0, x1] rfl rfl HC.out h1c (by unfold maxLen; omega) (by omega) hbase ?_; intro v1 W1 hown1 hg1 _ hat1)
    all_goals
      go_ret
      exact ⟨_, rfl, hown1, hg1, hat1.imp id (fun h => ⟨_, h, Nat.le_refl _⟩)⟩

set_option maxHeartbeats 4000000 in
set_option maxRecDepth 100000 in
theorem insert_room (base : Nat) (W : World) (g cap n i : Nat) (cur : Array Value) (inner : List Value) (x0 x1 : Value) (vb : Nat) (hg : W.heap[g]? = some (.cells cur 32 (0, 0))) (hsz : cur.size = cap * 2)
    (hin : cur.toList.take (n * 2) = inner) (hv : W.heap[vb]? = some (.cells #[x0, x1] 32 (0, 0))) (hne : vb ≠ g)
    (ho0 : x0.oneCell' = true) (ho1 : x1.oneCell' = true) (h1i : ∀ u ∈ inner, u.oneCell' = true) (hn : n < 8000000000000) (hi : i < n) (hroom : n + 1 ≤ cap) (hcap : cap ≤ maxLen) (hbase : base ≤ g) :
    Calls Try.prog 36 #[.slice (some ⟨g, 0, none⟩) n cap, .int .i64 i, .slice (some ⟨vb, 0, none⟩) 1 1] W (Ins base W (.slice (some ⟨g, 0, none⟩) n cap) n (inner.take (i * 2) ++ [x0, x1] ++ inner.drop (i * 2))) := by
  unfold maxLen at hcap
  have hgl : g < W.heap.size := blk_lt hg
  have hil : inner.length = n * 2 := by rw [← hin, List.length_take, Array.length_toList, hsz]; omega
  have hov : ∀ lb cb, (callFunc 39 #[.slice (some ⟨vb, 0, none⟩) 1 1, .slice (some ⟨g, (i + 1) * 2, none⟩) lb cb]).run Try.prog W = .ok (.value (.bool false)) W := fun lb cb => by
    rw [run_callFunc_extern Try.func39 (by kernel_rfl) (by kernel_rfl) (by kernel_rfl) (e := Extern.SlicesOverlaps.overlaps #[23, 23] #[4]) (by kernel_rfl),
      Lib.run_overlaps_apart W 23 4 32 Try.underlying23 2 (fun _ => by kernel_rfl) ⟨vb, 0, none⟩ ⟨g, (i + 1) * 2, none⟩ 1 1 lb cb hne 32 32 2 (cap * 2) (by simp [World.shape?, hv]) (by simp [World.shape?, hg, hsz]) (by omega) (by simp [World.frozen?, hv]) (by simp [World.frozen?, hv])]
    rfl
  have hdl : (inner.drop (i * 2)).length = (n - i) * 2 := by rw [List.length_drop, hil]; omega
  have hcu : cur.toList = inner ++ cur.toList.drop (n * 2) := by rw [← hin]; exact (List.take_append_drop _ _).symm
  obtain ⟨D, hD⟩ : ∃ D, D = inner.drop (i * 2) := ⟨_, rfl⟩
  obtain ⟨C1, hC1⟩ : ∃ C1 : List Value, C1 = splice cur.toList ((i + 1) * 2) D := ⟨_, rfl⟩
  obtain ⟨C2, hC2⟩ : ∃ C2 : List Value, C2 = splice C1 (i * 2) [x0, x1] := ⟨_, rfl⟩
  have hDl : D.length = (n - i) * 2 := by rw [hD]; exact hdl
  have hC1l : C1.length = cap * 2 := by rw [hC1, length_splice _ _ _ (by rw [hDl, Array.length_toList, hsz]; omega), Array.length_toList, hsz]
  have hsrc : ∀ j v, D[j]? = some v → W.cell? ((⟨g, i * 2, none⟩ : Addr).add j) = some v := fun j v hj => by
    have hjl : j < D.length := by
      rcases Nat.lt_or_ge j D.length with h | h
      · exact h
      · rw [List.getElem?_eq_none h] at hj; cases hj
    rw [Addr.add_lit]
    have : cur[i * 2 + j]? = some v := by
      have e : cur.toList[i * 2 + j]? = some v := by
        rw [hcu, List.getElem?_append_left (by omega)]
        rw [hD, List.getElem?_drop] at hj; exact hj
      simpa using e
    simpa [World.cell?, hg] using this
  have hcp1 : ∀ ty dc sc, (Builtin.copy_ #[23, 23] ty #[.slice (some ⟨g, (i + 1) * 2, none⟩) (n - i) dc, .slice (some ⟨g, i * 2, none⟩) (n + 1 - i) sc]).run Try.prog W.drew = .ok (goInt (Nat.min (n + 1 - i) (n - i))) (W.drew.setRow g C1.toArray) := fun ty dc sc => by
    rw [hC1]
    exact xrun_copy (P := Try.prog) W.drew 23 23 ty 32 g ((i + 1) * 2) (n - i) dc ⟨g, i * 2, none⟩ (n + 1 - i) sc 2 cur 32 D Try.underlying23 (by kernel_rfl) hg (by rw [hDl]; simp only [Nat.min_def]; split <;> omega) hsrc (by rw [hDl, hsz]; omega) (fun v hv => h1i v (by rw [hD] at hv; exact List.mem_of_mem_drop hv))
  have hcp2 : ∀ (W2 : World), W2.heap = (W.setRow g C1.toArray).heap → ∀ ty dc, (Builtin.copy_ #[23, 23] ty #[.slice (some ⟨g, i * 2, none⟩) (n + 1 - i) dc, .slice (some ⟨vb, 0, none⟩) 1 1]).run Try.prog W2 = .ok (goInt (Nat.min 1 (n + 1 - i))) (W2.setRow g C2.toArray) := fun W2 hW2 ty dc => by
    have hg2 : W2.heap[g]? = some (.cells C1.toArray 32 (0, 0)) := by rw [hW2]; exact setRow_heap W g _ _ _ _ hg
    have hv2 : W2.heap[vb]? = some (.cells #[x0, x1] 32 (0, 0)) := by rw [hW2]; rw [setRow_other W g vb _ hne]; exact hv
    have hs2 : ∀ j u, [x0, x1][j]? = some u → W2.cell? ((⟨vb, 0, none⟩ : Addr).add j) = some u := by
      have h := World.news_of_block (cs := #[x0, x1]) hv2
      simpa using h
    rw [hC2]
    exact xrun_copy (P := Try.prog) W2 23 23 ty 32 g (i * 2) (n + 1 - i) dc ⟨vb, 0, none⟩ 1 1 2 C1.toArray 32 [x0, x1] Try.underlying23 (by kernel_rfl) hg2 (by simp only [Nat.min_def]; split <;> simp <;> omega) hs2 (by simp [hC1l]; omega) (by simp [ho0, ho1])
  have hfin : ∀ W3 : World, W3.heap = ((W.setRow g C1.toArray).setRow g C2.toArray).heap → W3.os = W.os → W3.tape = W.tape → W3.output = W.output →
      Ins base W (.slice (some ⟨g, 0, none⟩) n cap) n (inner.take (i * 2) ++ [x0, x1] ++ inner.drop (i * 2)) (.returned (.slice (some ⟨g, 0, none⟩) (n + 1) cap)) W3 := fun W3 h3 ho ht hp => by
    rw [setRow_setRow] at h3
    have hg3 : W3.heap[g]? = some (.cells C2.toArray 32 (0, 0)) := by rw [h3]; exact setRow_heap W g _ _ _ _ hg
    have hC2l : C2.length = cap * 2 := by rw [hC2, length_splice _ _ _ (by simp [hC1l]; omega), hC1l]
    have htk : C2.take ((n + 1) * 2) = inner.take (i * 2) ++ [x0, x1] ++ inner.drop (i * 2) := by
      rw [hC2, hC1, hcu, hD]
      exact ins_splice inner _ n i x0 x1 hil hi
    refine ⟨_, rfl, ⟨by rw [← htk, List.length_take, hC2l]; omega, .inr ⟨g, cap, C2.toArray, rfl, hbase, hg3, hroom, by unfold maxLen; omega, by simpa using hC2l, by simpa using htk⟩⟩, ?_, .inl rfl⟩
    refine ⟨ho, ht, hp, by rw [h3]; simp [World.setRow], fun k hk hne' => ?_⟩
    rw [h3]
    exact setRow_other W g k _ (fun e => hne' (by rw [e]; rfl))
  have HF := Aside0.mk hfin
  clear hfin hcu hsrc hC1 hC2 hdl hD hDl hC1l hin hil
  go_enter Try.func36, Try.ntmps36
  go_wp2_with (simp only [hov])
  clear hov
  have hw1 : IntKind.i64.wrap ((i : Int) + 1) = (i : Int) + 1 := by rw [IntKind.wrap_i64]; omega
  have hb1 : (0 : Int) ≤ (i : Int) + 1 := by omega
  have hin' : i ≤ n := by omega
  have htn : ((i : Int) + 1).toNat = i + 1 := by omega
  have hb2 : ¬ (cap = i + 1) := by omega
  have hb3 : (i : Int) ≤ (n : Int) + 1 := by omega
  have hb4 : ¬ (cap = i) := by omega
  go_region_law (refine xstep_copy rfl _ _ 23 23 rfl _ _ (by simp [Act.eval, Act.put]) (by simp [Act.eval, Act.put]) (hcp1 _ _ _) ?_)
  go_wp2_with ((with_reducible refine gate_builtin (b := .copy) (xs := #[.tmp 80, .tmp 81]) rfl ?_); go_must (refine xwpList_copy _ rfl (.tmp 80) (.tmp 81) 23 23 rfl _ _ rfl rfl (hcp2 (W.drew.setRow g C1.toArray) rfl _ _) ?_))

  go_ret
  exact HF.out _ rfl rfl rfl rfl

theorem zeros_size (k : Nat) : (Builtin.zeroCells (Value.agg #[(.int .i64 0), (.int .i64 0)]).cells k).size = k * 2 := by
  simp [Builtin.zeroCells, Value.cells]
set_option maxHeartbeats 4000000 in
set_option maxRecDepth 100000 in
theorem insert_grow (base : Nat) (W : World) (g cap n i : Nat) (cur : Array Value) (inner : List Value) (x0 x1 : Value) (vb : Nat) (hg : W.heap[g]? = some (.cells cur 32 (0, 0))) (hsz : cur.size = cap * 2)
    (hin : cur.toList.take (n * 2) = inner) (hv : W.heap[vb]? = some (.cells #[x0, x1] 32 (0, 0)))
    (ho0 : x0.oneCell' = true) (ho1 : x1.oneCell' = true) (h1i : ∀ u ∈ inner, u.oneCell' = true) (hn : n < 8000000000000) (hi : i < n) (hnc : n ≤ cap) (hroom : cap < n + 1) (hbase : base ≤ g) :
    Calls Try.prog 36 #[.slice (some ⟨g, 0, none⟩) n cap, .int .i64 i, .slice (some ⟨vb, 0, none⟩) 1 1] W (Ins base W (.slice (some ⟨g, 0, none⟩) n cap) n (inner.take (i * 2) ++ [x0, x1] ++ inner.drop (i * 2))) := by
  obtain ⟨i0, hi0, hz0, hzs, hzb⟩ := info_parts xinfo32
  obtain rfl : cap = n := by omega
  have hgl : g < W.heap.size := blk_lt hg
  have hvl : vb < W.heap.size := blk_lt hv
  have hil : inner.length = cap * 2 := by rw [← hin, List.length_take, Array.length_toList, hsz]; omega
  have hcur : cur.toList = inner := by rw [← hin, List.take_of_length_le (by rw [Array.length_toList, hsz]; omega)]
  have hcell : ∀ j v, inner[j]? = some v → W.cell? ⟨g, j, none⟩ = some v := fun j v hj => by
    have : cur[j]? = some v := by rw [← hcur] at hj; simpa using hj
    simpa [World.cell?, hg] using this
  have hold : (Builtin.firstCells i0.size i (.slice (some ⟨g, 0, none⟩) i cap)).run Try.prog W.drew = .ok (inner.take (i * 2)).toArray W.drew := by
    rw [hzs]
    exact run_firstCells_some W.drew 2 i ⟨g, 0, none⟩ i cap (inner.take (i * 2)) (by rw [List.length_take]; omega) (fun j v hj => by
      rw [Addr.add_lit, Nat.zero_add]
      rw [List.getElem?_take] at hj
      split at hj
      · exact hcell j v hj
      · cases hj)
  have hkk : (cap : Int) + 1 - (i : Int) = ((cap + 1 - i : Nat) : Int) := by omega
  have hik : i + (cap + 1 - i) = cap + 1 := by omega
  obtain ⟨Z, hZ⟩ : ∃ Z : Value, Z = Value.agg #[(.int .i64 0), (.int .i64 0)] := ⟨_, rfl⟩
  rw [← hZ] at hz0
  have hrz : ∀ ty, (Builtin.append_ #[23, 3] ty #[.slice (some ⟨g, 0, none⟩) i cap, .int .i64 ((cap : Int) + 1 - (i : Int))]).run Try.prog W =
      .ok (.slice (some ⟨W.heap.size, 0, none⟩) (cap + 1) (grownCap W (cap + 1) cap 32)) (W.drew.alloc (.cells ((inner.take (i * 2)).toArray ++ Builtin.zeroCells Z.cells (cap + 1 - i) ++ Builtin.zeroCells Z.cells (grownCap W (cap + 1) cap 32 - (cap + 1))) 32)) := fun ty => by
    have h := Lib.run_append_grow_zeros W 23 3 ty 32 i0 _ .i64 .i64 Try.underlying23 Try.underlying3 hi0 hz0 (some ⟨g, 0, none⟩) i cap (inner.take (i * 2)) hold (cap + 1 - i) (by omega) (by omega) (by omega) (by omega) (by rw [hzb]; omega) (by rw [hzb, hik]; exact growslice_fits hroom (by omega))
    rw [hik] at h
    rw [hkk]
    exact h
  obtain ⟨G, hG⟩ : ∃ G, G = grownCap W (cap + 1) cap 32 := ⟨_, rfl⟩
  have hGn : cap + 1 ≤ G := by rw [hG]; exact grownCap_ge W _ _ _
  have hG63 : G ≤ 9223372036854775807 := by
    have := grownCap_le_maxLen W (cap + 1) cap 32 (by unfold maxLen; omega)
    rw [← hG] at this
    unfold maxLen at this
    omega
  rw [← hG] at hrz
  obtain ⟨T2, hT2⟩ : ∃ T2 : List Value, T2 = (Builtin.zeroCells Z.cells (cap + 1 - i)).toList ++ (Builtin.zeroCells Z.cells (G - (cap + 1))).toList := ⟨_, rfl⟩
  have hT2l : T2.length = (G - i) * 2 := by
    rw [hT2, List.length_append, Array.length_toList, Array.length_toList, hZ, zeros_size, zeros_size]; omega
  obtain ⟨ROW, hROW⟩ : ∃ ROW : Array Value, ROW = (inner.take (i * 2)).toArray ++ Builtin.zeroCells Z.cells (cap + 1 - i) ++ Builtin.zeroCells Z.cells (G - (cap + 1)) := ⟨_, rfl⟩
  rw [← hROW] at hrz
  have hRL : ROW.toList = inner.take (i * 2) ++ T2 := by rw [hROW, hT2]; simp
  have hRl : ROW.size = G * 2 := by rw [← Array.length_toList, hRL, List.length_append, List.length_take, hT2l]; omega
  obtain ⟨D, hD⟩ : ∃ D, D = inner.drop (i * 2) := ⟨_, rfl⟩
  have hDl : D.length = (cap - i) * 2 := by rw [hD, List.length_drop, hil]; omega
  obtain ⟨R1, hR1⟩ : ∃ R1 : List Value, R1 = splice ROW.toList (i * 2) [x0, x1] := ⟨_, rfl⟩
  have hR1l : R1.length = G * 2 := by rw [hR1, length_splice _ _ _ (by simp [hRl]; omega), Array.length_toList, hRl]
  obtain ⟨R2, hR2⟩ : ∃ R2 : List Value, R2 = splice R1 ((i + 1) * 2) D := ⟨_, rfl⟩
  have hR2l : R2.length = G * 2 := by rw [hR2, length_splice _ _ _ (by rw [hR1l, hDl]; omega), hR1l]
  obtain ⟨WA, hWA⟩ : ∃ WA, WA = W.alloc (.cells ROW 32) := ⟨_, rfl⟩
  have hNB : WA.heap[W.heap.size]? = some (.cells ROW 32 (0, 0)) := by rw [hWA]; exact heap_alloc_new W _
  have hOld : ∀ k, k < W.heap.size → WA.heap[k]? = W.heap[k]? := fun k hk => by rw [hWA]; exact ((Below.refl W.heap.size W).alloc (Nat.le_refl _) _).block k hk
  have hcpA : ∀ (W2 : World), W2.heap = WA.heap → ∀ ty dc, (Builtin.copy_ #[23, 23] ty #[.slice (some ⟨W.heap.size, i * 2, none⟩) (cap + 1 - i) dc, .slice (some ⟨vb, 0, none⟩) 1 1]).run Try.prog W2 = .ok (goInt (Nat.min 1 (cap + 1 - i))) (W2.setRow W.heap.size R1.toArray) := fun W2 hW2 ty dc => by
    have hv2 : W2.heap[vb]? = some (.cells #[x0, x1] 32 (0, 0)) := by rw [hW2, hOld _ hvl]; exact hv
    have hs2 : ∀ j u, [x0, x1][j]? = some u → W2.cell? ((⟨vb, 0, none⟩ : Addr).add j) = some u := by
      have h := World.news_of_block (cs := #[x0, x1]) hv2
      simpa using h
    rw [hR1]
    exact xrun_copy (P := Try.prog) W2 23 23 ty 32 W.heap.size (i * 2) (cap + 1 - i) dc ⟨vb, 0, none⟩ 1 1 2 ROW 32 [x0, x1] Try.underlying23 (by kernel_rfl) (by rw [hW2]; exact hNB) (by simp only [Nat.min_def]; split <;> simp <;> omega) hs2 (by simp [hRl]; omega) (by simp [ho0, ho1])
  have hcpB : ∀ (W2 : World), W2.heap = (WA.setRow W.heap.size R1.toArray).heap → ∀ ty dc sc, (Builtin.copy_ #[23, 23] ty #[.slice (some ⟨W.heap.size, (i + 1) * 2, none⟩) (cap - i) dc, .slice (some ⟨g, i * 2, none⟩) (cap - i) sc]).run Try.prog W2 = .ok (goInt (Nat.min (cap - i) (cap - i))) (W2.setRow W.heap.size R2.toArray) := fun W2 hW2 ty dc sc => by
    have hg2 : W2.heap[g]? = some (.cells cur 32 (0, 0)) := by rw [hW2, setRow_other _ _ _ _ (by omega), hOld _ hgl]; exact hg
    rw [hR2]
    exact xrun_copy (P := Try.prog) W2 23 23 ty 32 W.heap.size ((i + 1) * 2) (cap - i) dc ⟨g, i * 2, none⟩ (cap - i) sc 2 R1.toArray 32 D Try.underlying23 (by kernel_rfl) (by rw [hW2]; exact setRow_heap _ _ _ _ _ _ hNB) (by rw [hDl]; simp [Nat.min_def]) (fun j v hj => by
      rw [Addr.add_lit]
      have : cur[i * 2 + j]? = some v := by
        have e : cur.toList[i * 2 + j]? = some v := by rw [hcur]; rw [hD, List.getElem?_drop] at hj; exact hj
        simpa using e
      simpa [World.cell?, hg2] using this) (by simp [hR1l, hDl]; omega) (fun v hv => h1i v (by rw [hD] at hv; exact List.mem_of_mem_drop hv))
  have hfin : ∀ W3 : World, W3.heap = ((WA.setRow W.heap.size R1.toArray).setRow W.heap.size R2.toArray).heap → W3.os = W.os → W3.tape = W.tape → W3.output = W.output →
      Ins base W (.slice (some ⟨g, 0, none⟩) cap cap) cap (inner.take (i * 2) ++ [x0, x1] ++ inner.drop (i * 2)) (.returned (.slice (some ⟨W.heap.size, 0, none⟩) (cap + 1) G)) W3 := fun W3 h3 ho ht hp => by
    rw [setRow_setRow] at h3
    have hg3 : W3.heap[W.heap.size]? = some (.cells R2.toArray 32 (0, 0)) := by rw [h3]; exact setRow_heap _ _ _ _ _ _ hNB
    have htk : R2.take ((cap + 1) * 2) = inner.take (i * 2) ++ [x0, x1] ++ inner.drop (i * 2) := by
      rw [hR2, hR1, hRL, hD]
      exact grow_splice inner T2 cap i x0 x1 hil hi (by omega)
    refine ⟨_, rfl, ⟨by rw [← htk, List.length_take, hR2l]; omega, .inr ⟨W.heap.size, G, R2.toArray, rfl, by omega, hg3, hGn, by unfold maxLen; omega, by simpa using hR2l, by simpa using htk⟩⟩, ?_, .inr ⟨_, rfl, Nat.le_refl _⟩⟩
    refine ⟨ho, ht, hp, by rw [h3, hWA]; simp [World.setRow], fun k hk hne' => ?_⟩
    rw [h3, setRow_other _ _ _ _ (by omega)]
    exact hOld k hk
  have HF := Aside0.mk hfin
  have hGi : ¬ (G = i) := by omega
  have hGim : ¬ (G = i + 1) := by omega
  have hci : ¬ (cap = i) := by omega
  rw [hWA] at hcpA hcpB HF
  have HA := Aside0.mk hcpA
  have HB := Aside0.mk hcpB
  clear hfin hkk hik hold hROW hG hRl hRL hR1 hR2 hR1l hR2l hT2 hT2l hD hDl hZ hcell hcur hil hWA hNB hOld hz0 hzs hzb hin hsz hcpA hcpB
  go_enter Try.func36, Try.ntmps36
  go_wp2_with (first
    | (at_builtin; refine Lib.wpList_append_run _ rfl (.tmp 34) (.tmp 39) _ _ rfl _ _ rfl rfl _ _ (hrz _) ?_)
    | ((with_reducible refine gate_builtin (b := .copy) (xs := #[.tmp 43, .tmp 44]) rfl ?_); go_must (refine xwpList_copy _ rfl (.tmp 43) (.tmp 44) 23 23 rfl _ _ rfl rfl (HA.out (W.drew.alloc (.cells ROW 32)) rfl _ _) ?_)))
  have hw1 : IntKind.i64.wrap ((i : Int) + 1) = (i : Int) + 1 := by rw [IntKind.wrap_i64]; omega
  have hb1 : (0 : Int) ≤ (i : Int) + 1 := by omega
  have hin' : i ≤ cap := by omega
  have htn : ((i : Int) + 1).toNat = i + 1 := by omega
  have hb3 : (i : Int) ≤ (cap : Int) := by omega
  go_region_law (refine xstep_copy rfl _ _ 23 23 rfl (.slice (some ⟨W.heap.size, (i + 1) * 2, none⟩) (cap - i) (G - (i + 1))) (.slice (some ⟨g, i * 2, none⟩) (cap - i) (cap - i)) (by simp [Act.eval, Act.put]) (by simp [Act.eval, Act.put]) (HB.out ((((W.alloc (.cells ROW 32)).drew).setRow W.heap.size R1.toArray).drew) rfl 3 (G - (i + 1)) (cap - i)) ?_)
  go_wp2_with fail
  go_ret
  exact HF.out _ rfl rfl rfl rfl

/-- What 'add' makes of a sorted profile. -/
def addS : List S32 → Int → Int → List S32
  | [], a, n => [⟨a, n⟩]
  | x :: xs, a, n => if x.f0 < a then x :: addS xs a n else if x.f0 = a then ⟨a, wrap64 (x.f1 + n)⟩ :: xs else ⟨a, n⟩ :: x :: xs
/-- Addresses that rise, in a range in which no difference wraps. -/
def addOk (l : List S32) (a : Int) : Prop := (∀ x ∈ l, 0 ≤ x.f0 ∧ x.f0 ≤ 1048576) ∧ (0 ≤ a ∧ a ≤ 1048576) ∧ l.Pairwise (fun x y => x.f0 < y.f0) ∧ l.length < 8000000000000
instance (l : List S32) (a : Int) : Decidable (addOk l a) := by unfold addOk; infer_instance
def cells32 (l : List S32) : List Value := l.flatMap (fun x => [Value.int .i64 x.f0, Value.int .i64 x.f1])
theorem cells32_nil : cells32 [] = [] := rfl
theorem cells32_cons (x : S32) (l : List S32) : cells32 (x :: l) = .int .i64 x.f0 :: .int .i64 x.f1 :: cells32 l := rfl
theorem cells32_append (l m : List S32) : cells32 (l ++ m) = cells32 l ++ cells32 m := by simp [cells32]
theorem cells32_length (l : List S32) : (cells32 l).length = l.length * 2 := by
  induction l with
  | nil => rfl
  | cons x xs ih => simp [cells32_cons, ih]; omega
theorem cells32_take (l : List S32) (i : Nat) : cells32 (l.take i) = (cells32 l).take (i * 2) := by
  induction l generalizing i with
  | nil => simp [cells32_nil]
  | cons x xs ih =>
    cases i with
    | zero => simp [cells32_nil]
    | succ i => rw [List.take_succ_cons, cells32_cons, cells32_cons, ih, Nat.add_mul]; rfl
theorem cells32_drop (l : List S32) (i : Nat) : cells32 (l.drop i) = (cells32 l).drop (i * 2) := by
  induction l generalizing i with
  | nil => simp [cells32_nil]
  | cons x xs ih =>
    cases i with
    | zero => simp
    | succ i => rw [List.drop_succ_cons, cells32_cons, ih, Nat.add_mul]; rfl
theorem cells32_one (l : List S32) : ∀ u ∈ cells32 l, u.oneCell' = true := by
  intro u hu
  simp only [cells32, List.mem_flatMap] at hu
  obtain ⟨x, _, hx⟩ := hu
  simp at hx
  rcases hx with rfl | rfl <;> rfl
theorem cells32_get (l : List S32) (i : Nat) (h : i < l.length) : (cells32 l)[i * 2]? = some (.int .i64 l[i].f0) ∧ (cells32 l)[i * 2 + 1]? = some (.int .i64 l[i].f1) := by
  induction l generalizing i with
  | nil => simp at h
  | cons x xs ih =>
    cases i with
    | zero => simp [cells32_cons]
    | succ i =>
      have := ih i (by simpa using h)
      rw [cells32_cons, Nat.add_mul, Nat.one_mul]
      simpa using this
theorem cells32_set (l : List S32) (i : Nat) (h : i < l.length) (u : Int) : (cells32 l).set (i * 2 + 1) (.int .i64 u) = cells32 (l.set i ⟨l[i].f0, u⟩) := by
  induction l generalizing i with
  | nil => simp at h
  | cons x xs ih =>
    cases i with
    | zero => simp [cells32_cons]
    | succ i =>
      have := ih i (by simpa using h)
      rw [cells32_cons, Nat.add_mul, Nat.one_mul]
      simp only [List.set_cons_succ, List.getElem_cons_succ, cells32_cons]
      rw [this]
theorem addS_ins (l : List S32) (a n : Int) (h : ¬ (posOf l a < l.length ∧ (rd_T32 l (posOf l a : Int)).f0 = a)) : addS l a n = l.take (posOf l a) ++ [⟨a, n⟩] ++ l.drop (posOf l a) := by
  induction l with
  | nil => rfl
  | cons x xs ih =>
    unfold addS posOf
    by_cases h1 : x.f0 < a
    · rw [if_pos h1, if_pos h1]
      have h' : ¬ (posOf xs a < xs.length ∧ (rd_T32 xs (posOf xs a : Int)).f0 = a) := by
        rintro ⟨p, q⟩
        apply h
        unfold posOf
        rw [if_pos h1]
        exact ⟨by simpa using p, by simpa [rd_T32] using q⟩
      rw [ih h']
      simp
    · rw [if_neg h1, if_neg h1]
      have h2 : ¬ x.f0 = a := by
        intro h2
        apply h
        unfold posOf
        rw [if_neg h1]
        exact ⟨by simp, by simpa [rd_T32] using h2⟩
      rw [if_neg h2]
      simp
theorem addS_set (l : List S32) (a n : Int) (h : posOf l a < l.length) (he : l[posOf l a].f0 = a) : addS l a n = l.set (posOf l a) ⟨l[posOf l a].f0, wrap64 (l[posOf l a].f1 + n)⟩ := by
  induction l with
  | nil => simp at h
  | cons x xs ih =>
    by_cases h1 : x.f0 < a
    · have hp : posOf (x :: xs) a = posOf xs a + 1 := by rw [posOf, if_pos h1]
      simp only [hp] at h he ⊢
      unfold addS
      rw [if_pos h1]
      simp only [List.getElem_cons_succ, List.set_cons_succ] at he ⊢
      rw [ih (by simpa using h) he]
    · have hp : posOf (x :: xs) a = 0 := by rw [posOf, if_neg h1]
      simp only [hp] at h he ⊢
      simp only [List.getElem_cons_zero] at he
      unfold addS
      rw [if_neg h1, if_pos he]
      simp [he]
theorem reps32 {w : World} {base : Nat} {ok : Nat → Prop} {xs : List S32} : ∀ {inner : List Value}, Reps (k32.M w base ok) 2 xs inner → inner = cells32 xs := by
  induction xs with
  | nil =>
    intro inner h
    have := h.1
    simp at this
    rw [this]; rfl
  | cons x xs ih =>
    intro inner h
    have hl := h.1
    have h0 := k32_openM (h.2 0 x rfl)
    simp only [Nat.zero_mul, List.drop_zero] at h0
    have hd : Reps (k32.M w base ok) 2 xs (inner.drop 2) := by
      refine ⟨by rw [List.length_drop, hl]; simp; omega, fun j p hj => ?_⟩
      have := h.2 (j + 1) p (by simpa using hj)
      rw [List.drop_drop]
      rw [show 2 + j * 2 = (j + 1) * 2 from by omega]
      exact this
    rw [← List.take_append_drop 2 inner, h0, ih hd]
    rfl
theorem reps32_mk (w : World) (base : Nat) (ok : Nat → Prop) (xs : List S32) : Reps (k32.M w base ok) 2 xs (cells32 xs) := by
  refine ⟨cells32_length xs, fun j p hj => ?_⟩
  obtain ⟨hjl, rfl⟩ := List.getElem?_eq_some_iff.1 hj
  have hg := cells32_get xs j hjl
  have e : ((cells32 xs).drop (j * 2)).take 2 = [.int .i64 xs[j].f0, .int .i64 xs[j].f1] := by
    apply List.ext_getElem?
    intro m
    rw [List.getElem?_take]
    match m with
    | 0 => simpa [List.getElem?_drop] using hg.1
    | 1 => simpa [List.getElem?_drop] using hg.2
    | m + 2 => simp; omega
  rw [e]
  exact k32_mkM w base ok _
theorem R32_raw {w : World} {base : Nat} {ok : Nat → Prop} {v : Value} {xs : List S32} (h : Kd.R k32 32 w base ok v xs) : w.ownsRow base 32 2 v xs.length (cells32 xs) := by
  obtain ⟨_, inner, ho, hr⟩ := h
  rw [← reps32 hr]; exact ho
theorem R32_mk {w : World} {base : Nat} {ok : Nat → Prop} {v : Value} {xs : List S32} (h : w.ownsRow base 32 2 v xs.length (cells32 xs)) (hk : ∀ k, v.ownBlock = some k → ok k) : Kd.R k32 32 w base ok v xs :=
  ⟨hk, cells32 xs, h, reps32_mk _ _ _ _⟩
theorem insert_all (base : Nat) (W : World) (v : Value) (n i : Nat) (inner : List Value) (x0 x1 : Value) (vb : Nat) (hown : W.ownsRow base 32 2 v n inner) (hv : W.heap[vb]? = some (.cells #[x0, x1] 32 (0, 0)))
    (hne : v.ownBlock ≠ some vb) (ho0 : x0.oneCell' = true) (ho1 : x1.oneCell' = true) (h1i : ∀ u ∈ inner, u.oneCell' = true) (hn : n < 8000000000000) (hi : i ≤ n) (hbase : base ≤ W.heap.size) :
    Calls Try.prog 36 #[v, .int .i64 i, .slice (some ⟨vb, 0, none⟩) 1 1] W (Ins base W v n (inner.take (i * 2) ++ [x0, x1] ++ inner.drop (i * 2))) := by
  by_cases hin : i = n
  · subst hin
    have hl := hown.1
    rw [List.take_of_length_le (by omega), List.drop_of_length_le (by omega), List.append_nil]
    exact insert_end base W v i inner x0 x1 vb hown hv ho0 ho1 hn hbase
  · rcases hown.2 with ⟨_, h0⟩ | ⟨g, cap, cur, rfl, hb, hg, hnc, hcm, hsz, htk⟩
    · omega
    · have hvg : vb ≠ g := fun e => hne (by rw [e]; rfl)
      rcases Nat.lt_or_ge cap (n + 1) with hr | hr
      · exact insert_grow base W g cap n i cur inner x0 x1 vb hg hsz htk hv ho0 ho1 h1i hn (by omega) hnc hr hb
      · exact insert_room base W g cap n i cur inner x0 x1 vb hg hsz htk hv hvg ho0 ho1 h1i hn (by omega) hr hcm hb
def Added (W : World) (base : Nat) (v : Value) (l : List S32) (e : Ending) (W' : World) : Prop :=
  ∃ v', e = .returned v' ∧ W'.ownsRow base 32 2 v' l.length (cells32 l) ∧ W.grownBy W' v.ownBlock ∧ (v'.ownBlock = v.ownBlock ∨ ∃ b, v'.ownBlock = some b ∧ W.heap.size ≤ b)
theorem grown_below_trans {W W1 W2 : World} {row : Option Nat} (hb : Below W.heap.size W W1) (hg : W1.grownBy W2 row) : W.grownBy W2 row :=
  World.grownBy.trans (grown_of_below hb row) hg
set_option maxHeartbeats 1000000 in
set_option maxRecDepth 100000 in
theorem add_ins (base : Nat) (W : World) (v : Value) (l : List S32) (a n : Int) (hown : W.ownsRow base 32 2 v l.length (cells32 l)) (hok : addOk l a) (hbase : base ≤ W.heap.size)
    (hf : ¬ (posOf l a < l.length ∧ (rd_T32 l (posOf l a : Int)).f0 = a)) :
    Calls Try.prog 22 #[v, .int .i64 a, .int .i64 n] W (Added W base v (addS l a n)) := by
  obtain ⟨hb, ⟨h2, h3⟩, hs, hl⟩ := hok
  obtain ⟨A, c, rfl⟩ := own_slice hown
  have hnc := own_le hown
  have hR := R32_mk (ok := fun _ => True) hown (fun _ _ => trivial)
  have hC := (Kd.R_reads' hR).2.2
  have HFD := Aside0.mk (decide_eq_false hf)
  have HA := Aside0.mk (addS_ins l a n hf)
  have HS := Aside0.mk hs
  have HBB := Aside0.mk hb
  have HC := Aside0.mk hC
  have HO := Aside0.mk hown
  obtain ⟨i, hI⟩ : ∃ i, i = posOf l a := ⟨_, rfl⟩
  have hil : i ≤ l.length := by rw [hI]; exact posOf_le l a
  have HI := Aside0.mk hI
  clear hI hf hs hb hC hown hR
  go_enter Try.func22, Try.ntmps22
  go_wp2_with fail
  refine (search34 A c l a _ HC.out hnc HBB.out h2 h3 HS.out hl).mono ?_
  rintro e W1 ⟨rfl, hbel⟩
  rw [HFD.out, ← HI.out]
  have HB1 := Aside0.mk hbel
  clear hbel
  go_wp2_with fail
  have hown1 : (W1.alloc (.cells #[.int .i64 a, .int .i64 n] 32)).ownsRow base 32 2 (.slice A l.length c) l.length (cells32 l) := (pw_own_below HO.out HB1.out).alloc _
  have hlt : ∀ k, (Value.slice A l.length c).ownBlock = some k → k < W1.heap.size := fun k hk => Nat.lt_of_lt_of_le (HO.out.lt k hk).2 HB1.out.size
  refine (insert_all base (W1.alloc (.cells #[.int .i64 a, .int .i64 n] 32)) _ l.length i (cells32 l) (.int .i64 a) (.int .i64 n) W1.heap.size hown1 (heap_alloc_new W1 _) (fun e => Nat.lt_irrefl _ (hlt _ e)) rfl rfl (cells32_one l) hl hil (by have := HB1.out.size; simp; omega)).mono ?_
  rintro e W2 ⟨v', rfl, ho2, hg2, hat⟩
  go_wp2_with fail
  go_ret
  have hX : addS l a n = l.take i ++ [⟨a, n⟩] ++ l.drop i := by rw [HA.out, ← HI.out]
  have hlen : (addS l a n).length = l.length + 1 := by rw [hX]; simp; omega
  refine ⟨v', rfl, ?_, ?_, ?_⟩
  · rw [hlen, hX, cells32_append, cells32_append, cells32_take, cells32_drop]
    exact ho2
  · exact grown_below_trans HB1.out (World.grownBy.trans (World.grownBy_alloc W1 _ _) hg2)
  · rcases hat with h | ⟨b, h, hb⟩
    · exact .inl h
    · exact .inr ⟨b, h, by have := HB1.out.size; simp at hb; omega⟩
set_option maxHeartbeats 1000000 in
set_option maxRecDepth 100000 in
theorem add_set (base : Nat) (W : World) (v : Value) (l : List S32) (a n : Int) (hown : W.ownsRow base 32 2 v l.length (cells32 l)) (hok : addOk l a) (hbase : base ≤ W.heap.size)
    (hf : posOf l a < l.length ∧ (rd_T32 l (posOf l a : Int)).f0 = a) :
    Calls Try.prog 22 #[v, .int .i64 a, .int .i64 n] W (Added W base v (addS l a n)) := by
  obtain ⟨hb, ⟨h2, h3⟩, hs, hl⟩ := hok
  have hR := R32_mk (ok := fun _ => True) hown (fun _ _ => trivial)
  rcases hown.2 with ⟨_, h0⟩ | ⟨g, c, cur, rfl, hgb, hg, hnc, hcm, hsz, htk⟩
  · omega
  have hC := (Kd.R_reads' hR).2.2
  have HFD := Aside0.mk (decide_eq_true hf)
  have hge : l[posOf l a]'hf.1 = rd_T32 l (posOf l a : Int) := by simp [rd_T32, hf.1]
  have HA := Aside0.mk (addS_set l a n hf.1 (by rw [hge]; exact hf.2))
  have HS := Aside0.mk hs
  have HBB := Aside0.mk hb
  have HC := Aside0.mk hC
  have HO := Aside0.mk hown
  obtain ⟨i, hI⟩ : ∃ i, i = posOf l a := ⟨_, rfl⟩
  have hil : i < l.length := by rw [hI]; exact hf.1
  have hcg := cells32_get l i hil
  obtain ⟨y0, hY0⟩ : ∃ y, y = l[i].f0 := ⟨_, rfl⟩
  obtain ⟨y1, hY1⟩ : ∃ y, y = l[i].f1 := ⟨_, rfl⟩
  rw [← hY1] at hcg
  have HCG := Aside0.mk hcg.2
  have HX : Aside0 (addS l a n = l.set i ⟨l[i].f0, wrap64 (y1 + n)⟩) := ⟨by rw [hY1]; subst hI; exact HA.out⟩
  have HI := Aside0.mk hI
  clear hI hf hs hb hC hown hR hY0 hY1 HA hge htk hg hsz hcg
  go_enter Try.func22, Try.ntmps22
  go_wp2_with fail
  refine (search34 _ c l a _ HC.out hnc HBB.out h2 h3 HS.out hl).mono ?_
  rintro e W1 ⟨rfl, hbel⟩
  rw [HFD.out, ← HI.out]
  have HO1 := Aside0.mk (pw_own_below HO.out hbel)
  have HB1 := Aside0.mk hbel
  clear hbel
  have hc1 := HO1.out.cells (g := g) rfl _ _ HCG.out
  rw [Addr.add_lit, Nat.zero_add] at hc1
  have hfz := HO1.out.frozenAt (i * 2 + 1)
  go_wp2_with fail
  go_ret
  have hst := HO1.out.stored (i * 2 + 1) (.int .i64 (wrap64 (y1 + n)))
  rw [cells32_set l i hil, ← HX.out] at hst
  have hlen : (addS l a n).length = l.length := by rw [HX.out]; simp
  refine ⟨_, rfl, ?_, grown_below_trans HB1.out hst.2, .inl rfl⟩
  rw [hlen]
  exact hst.1
theorem add_raw (base : Nat) (W : World) (v : Value) (l : List S32) (a n : Int) (hown : W.ownsRow base 32 2 v l.length (cells32 l)) (hok : addOk l a) (hbase : base ≤ W.heap.size) :
    Calls Try.prog 22 #[v, .int .i64 a, .int .i64 n] W (Added W base v (addS l a n)) := by
  by_cases hf : posOf l a < l.length ∧ (rd_T32 l (posOf l a : Int)).f0 = a
  · exact add_set base W v l a n hown hok hbase hf
  · exact add_ins base W v l a n hown hok hbase hf
def sampling_add.f (l0 : List (S32)) (a1 : Int) (a2 : Int) : Option ((List (S32))) := if addOk l0 a1 then some (addS l0 a1 a2) else none
theorem sampling_add.calls (P0_ : Nat → Prop) (u9000_ : Value) (l0 : List (S32)) (a1 : Int) (a2 : Int) (r : List (S32)) (w0 w : World) (hB : Below w0.heap.size w0 w) (ho0 : Kd.R k32 32 w w0.heap.size P0_ u9000_ l0) (h : sampling_add.f l0 a1 a2 = some r) :
    Calls Try.prog 22 #[u9000_, .int .i64 a1, .int .i64 a2] w fun e w' => ∃ v0_ : Value, e = .returned (v0_) ∧ Kd.R k32 32 w' w0.heap.size (fun k_ => (P0_ k_ ∨ w.heap.size ≤ k_)) v0_ r ∧ Below w0.heap.size w0 w' ∧ Kept w w' (fun k_ => P0_ k_) := by
  unfold sampling_add.f at h
  split at h
  · rename_i hok
    obtain rfl := Option.some.inj h
    refine (add_raw w0.heap.size w u9000_ l0 a1 a2 (R32_raw ho0) hok hB.size).mono ?_
    rintro e w' ⟨v', rfl, hown, hg, hat⟩
    refine ⟨v', rfl, R32_mk hown (fun k hk => ?_), hB.grown hg hB.size (own_base (R32_raw ho0)), Kept.of_grown hg (Kept.refl _ _) (fun k hk => .inl (ho0.1 k hk))⟩
    rcases hat with h1 | ⟨b, h1, h2⟩
    · exact .inl (ho0.1 k (h1 ▸ hk))
    · rw [h1] at hk
      injection hk with hk
      exact .inr (hk ▸ h2)
  · cases h

def api_Sample.f (l0 : List (S32)) : Option ((List (S32))) := if l0.length < 8000000000000 then some l0 else none
set_option maxHeartbeats 1000000 in
set_option maxRecDepth 100000 in
theorem api_Sample.calls (A0 : Option Addr) (c0 : Nat) (l0 : List (S32)) (r : List (S32)) (w : World) (hr0 : Kd.C k32 w A0 l0.length l0) (hc0 : l0.length ≤ c0) (h : api_Sample.f l0 = some r) :
    Calls Try.prog 23 #[.slice A0 l0.length c0] w fun e w' => ∃ v0_ : Value, e = .returned (v0_) ∧ Kd.R k32 32 w' w.heap.size (fun _ => True) v0_ r ∧ Below w.heap.size w w' := by
  unfold api_Sample.f at h
  split at h
  · rename_i hlen
    obtain rfl := Option.some.inj h
    cases A0 with
    | none =>
      have h0 : l0 = [] := by
        rcases Nat.eq_zero_or_pos l0.length with h0 | h0
        · exact List.eq_nil_of_length_eq_zero h0
        · obtain ⟨ad, e, _⟩ := hr0.2.2 h0; cases e
      subst h0
      have hnil := fun w => Lib.run_eql_slice_nil (P := Try.prog) w 23 32 none 0 c0 0 0 Try.underlying23
      go_enter Try.func23, Try.ntmps23
      go_wp2
      go_ret
      exact ⟨_, rfl, Kd.R_nil _ _ _ _ _, Below.refl _ _⟩
    | some ad =>
      have hnil := fun w => Lib.run_eql_slice_nil (P := Try.prog) w 23 32 (some ad) l0.length c0 0 0 Try.underlying23
      have HR0 := Aside0.mk hr0
      clear hr0
      go_enter Try.func23, Try.ntmps23
      go_wp2_with ((with_reducible refine gate_builtin (b := .append) (xs := #[.tmp 5, .tmp 6]) rfl ?_); refine Kd.R_append_rows k32 (w0 := w) w.heap.size rfl (.tmp 5) (.tmp 6) 23 32 (.agg #[(.int .i64 0), (.int .i64 0)]) 16 rfl Try.underlying23 xinfo32 rfl (by decide) (by omega) _ [] l0 _ _ _ (fun _ => True) (fun _ => False) rfl rfl ?aO ?aR (fun _ _ h => h) (fun _ h => h.elim) ?aF ?aB ?aS ?aL ?_)
      case aR => exact Kd.C_alloc HR0.out _
      case aO => exact R32_mk (xs := []) (World.ownsRow_made w #[] 0 (Nat.le_refl _) (Nat.zero_le _) rfl) (fun _ _ => trivial)
      case aB => exact (Below.refl _ _).alloc (Nat.le_refl _) _
      case aL => omega
      intro v1 w1 hR hb hg hat
      go_wp2_with fail
      go_ret
      exact ⟨_, rfl, hR, hb⟩
  · cases h
theorem fld25_0 (a b : Int) (w : World) : (Instr.field 25 (.agg #[.int .i64 a, .int .i64 b]) 0).run Try.prog w = .ok (.int .i64 a) w := by kernel_rfl
theorem fld25_1 (a b : Int) (w : World) : (Instr.field 25 (.agg #[.int .i64 a, .int .i64 b]) 1).run Try.prog w = .ok (.int .i64 b) w := by kernel_rfl
theorem xR2 {α : Type} {d : Kd α} {e : Nat} {w : World} {base : Nat} {ok : Nat → Prop} {v : Value} {xs : List α} (h : d.R e w base ok v xs) {g t : Nat} {cells : Array Value} (hb : w.heap[g]? = some (.cells cells t (0, 0))) (ht : ∀ q, q ∈ e :: d.E → q ≠ t) (a b : Value) :
    d.R e ((w.setCell ⟨g, 0, none⟩ a).setCell ⟨g, 1, none⟩ b) base (fun k => ok k ∧ k ≠ g) v xs :=
  Kd.R_far (p := ⟨g, 1, none⟩) (Kd.R_far (p := ⟨g, 0, none⟩) (Kd.R_types h hb ht) (fun _ hk => hk.2) a) (fun _ hk => hk.2) b
end Go.Proofs.Ytjchmckbhfoopaa.PP
