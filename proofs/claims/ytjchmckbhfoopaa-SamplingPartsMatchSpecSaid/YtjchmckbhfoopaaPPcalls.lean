/- sampling.Calls: its contract. Conditions: none but that its two slices are read as lists. -/
import Derived.Test.YtjchmckbhfoopaaPPw27
import Derived.Test.YtjchmckbhfoopaaPPx1
import Derived.Test.YtjchmckbhfoopaaPPsrt
namespace Go.Proofs.Ytjchmckbhfoopaa.PP
open Go.RowKit Go.Proofs.YtjchmckbhfoopaaW.PrintWords Go.Proofs.YtjchmckbhfoopaaW.PrintLast Go.Proofs.YtjchmckbhfoopaaW.PrintMore
set_option linter.unusedVariables false
set_option linter.unusedSimpArgs false
def Ret (w : World) (r : List S53 × Int × Int) (e : Ending) (w' : World) : Prop :=
  ∃ v0_ : Value, e = .returned (.tuple #[v0_, .agg #[.int .i64 r.2.1, .int .i64 r.2.2]]) ∧ Kd.R k53 53 w' w.heap.size (fun _ => True) v0_ r.1 ∧ Below w.heap.size w w'
set_option maxHeartbeats 2000000 in
set_option maxRecDepth 100000 in
theorem calls_long (A0 : Option Addr) (c0 : Nat) (l0 : List (S30)) (A1 : Option Addr) (c1 : Nat) (l1 : List (S59)) (w : World) (h : 10000 < l0.length) :
    Calls Try.prog 18 #[.slice A0 l0.length c0, .slice A1 l1.length c1] w (Ret w ([], 2, -1)) := by
  have hu25 := Try.underlying25
  go_enter Try.func18, Try.ntmps18
  go_wp2_with ((with_reducible refine gate_dst (N := 5) rfl ?_); refine box_event ?hg (N := 5) ?hd (cs := #[.int .i64 0, .int .i64 0]) (t := 25) ?hr ?_; (case hd => rfl); (case hg => rfl); (case hr => first | (go_simp; done) | (go_simp; rfl)); intro g5 hg w5 hbox hb; have BK5 := Aside0.mk hbox; have BK3 := Aside0.mk (blk_below (heap_alloc_new w _) hb); have HB := Aside0.mk (below_step (below_alloc (Below.refl _ _) _) hb); have GE5 : w.heap.size ≤ g5 := (by rw [hg]; simp); clear hbox hb hg; have hcz0 : w5.cell? ⟨g5, 0, none⟩ = some (.int .i64 0) := (blk_cell BK5.out 0).trans rfl; have hcz1 : w5.cell? ⟨g5, 1, none⟩ = some (.int .i64 0) := (blk_cell BK5.out 1).trans rfl; have hfz0 := blk_frozen BK5.out 0; have hfz1 := blk_frozen BK5.out 1; have hc3 : w5.cell? ⟨w.heap.size, 0, none⟩ = some (.slice A1 l1.length c1) := (blk_cell BK3.out 0).trans rfl)
  refine bodyPost_ret (results_tc rfl _ _ g5 25 #[.int .i64 2, .int .i64 (-1)] (0, 0) _ rfl (blk_put (blk_put BK5.out 0 _ rfl) 1 _ rfl) Try.underlying25 rfl (by kernel_rfl)) rfl ?_
  exact ⟨_, rfl, Kd.R_nil _ _ _ _ _, below_set (below_set HB.out GE5) GE5⟩
set_option maxHeartbeats 2000000 in
set_option maxRecDepth 100000 in
theorem calls_many (A0 : Option Addr) (c0 : Nat) (l0 : List (S30)) (A1 : Option Addr) (c1 : Nat) (l1 : List (S59)) (w : World) (h : ¬ 10000 < l0.length) (h' : 60 < l1.length) :
    Calls Try.prog 18 #[.slice A0 l0.length c0, .slice A1 l1.length c1] w (Ret w ([], 2, -2)) := by
  have hu25 := Try.underlying25
  go_enter Try.func18, Try.ntmps18
  go_wp2_with ((with_reducible refine gate_dst (N := 5) rfl ?_); refine box_event ?hg (N := 5) ?hd (cs := #[.int .i64 0, .int .i64 0]) (t := 25) ?hr ?_; (case hd => rfl); (case hg => rfl); (case hr => first | (go_simp; done) | (go_simp; rfl)); intro g5 hg w5 hbox hb; have BK5 := Aside0.mk hbox; have BK3 := Aside0.mk (blk_below (heap_alloc_new w _) hb); have HB := Aside0.mk (below_step (below_alloc (Below.refl _ _) _) hb); have GE5 : w.heap.size ≤ g5 := (by rw [hg]; simp); clear hbox hb hg; have hcz0 : w5.cell? ⟨g5, 0, none⟩ = some (.int .i64 0) := (blk_cell BK5.out 0).trans rfl; have hcz1 : w5.cell? ⟨g5, 1, none⟩ = some (.int .i64 0) := (blk_cell BK5.out 1).trans rfl; have hfz0 := blk_frozen BK5.out 0; have hfz1 := blk_frozen BK5.out 1; have hc3 : w5.cell? ⟨w.heap.size, 0, none⟩ = some (.slice A1 l1.length c1) := (blk_cell BK3.out 0).trans rfl)
  refine bodyPost_ret (results_tc rfl _ _ g5 25 #[.int .i64 2, .int .i64 (-2)] (0, 0) _ rfl (blk_put (blk_put BK5.out 0 _ rfl) 1 _ rfl) Try.underlying25 rfl (by kernel_rfl)) rfl ?_
  exact ⟨_, rfl, Kd.R_nil _ _ _ _ _, below_set (below_set HB.out GE5) GE5⟩
attribute [local go_sem high] eqA25
set_option maxHeartbeats 2000000 in
set_option maxRecDepth 100000 in
theorem calls_place (A0 : Option Addr) (c0 : Nat) (l0 : List (S30)) (A1 : Option Addr) (c1 : Nat) (l1 : List (S59)) (w : World) (hr1 : Kd.C k59 w A1 l1.length l1) (hc1 : l1.length ≤ c1) (h : ¬ 10000 < l0.length) (h' : ¬ 60 < l1.length) (hp : ¬ idx badPlace l1 0 < 0) :
    Calls Try.prog 18 #[.slice A0 l0.length c0, .slice A1 l1.length c1] w (Ret w ([], 3, -100 - idx badPlace l1 0)) := by
  have hu25 := Try.underlying25
  have hF := placesF l1 l1.length 0 61 (by omega) (by omega) (by omega)
  simp only [List.drop_zero, Int.ofNat_zero] at hF
  replace hF : sampling_placesFault.f 61 l1 = some (3, -100 - idx badPlace l1 0) := by rw [if_neg hp] at hF; exact hF
  have HF := Aside0.mk hF
  clear hF
  have HR1 := Aside0.mk hr1
  clear hr1
  go_enter Try.func18, Try.ntmps18
  go_wp2_with ((with_reducible refine gate_dst (N := 5) rfl ?_); refine box_event ?hg (N := 5) ?hd (cs := #[.int .i64 0, .int .i64 0]) (t := 25) ?hr ?_; (case hd => rfl); (case hg => rfl); (case hr => first | (go_simp; done) | (go_simp; rfl)); intro g5 hg w5 hbox hb; have BK5 := Aside0.mk hbox; have BK3 := Aside0.mk (blk_below (heap_alloc_new w _) hb); have HB := Aside0.mk (below_step (below_alloc (Below.refl _ _) _) hb); have GE5 : w.heap.size ≤ g5 := (by rw [hg]; simp); clear hbox hb hg; have hcz0 : w5.cell? ⟨g5, 0, none⟩ = some (.int .i64 0) := (blk_cell BK5.out 0).trans rfl; have hcz1 : w5.cell? ⟨g5, 1, none⟩ = some (.int .i64 0) := (blk_cell BK5.out 1).trans rfl; have hfz0 := blk_frozen BK5.out 0; have hfz1 := blk_frozen BK5.out 1; have hc3 : w5.cell? ⟨w.heap.size, 0, none⟩ = some (.slice A1 l1.length c1) := (blk_cell BK3.out 0).trans rfl)
  refine (sampling_placesFault.calls 61 A1 c1 l1 _ _ _ (Kd.C_below HR1.out HB.out) hc1 HF.out).mono ?_
  rintro e w6 ⟨rfl, hb6⟩
  replace BK5 := Aside0.mk (blk_below BK5.out hb6)
  replace HB := Aside0.mk (below_step HB.out hb6)
  have HS6 := Aside0.mk (Nat.lt_of_lt_of_le (blk_lt BK5.out) (Nat.le_refl _))
  clear hcz0 hcz1 hfz0 hfz1 hc3 hb6 BK3
  go_wp2_with ((with_reducible refine gate_dst (N := 6) rfl ?_); refine box_event ?hg (N := 6) ?hd (cs := #[.int .i64 0, .int .i64 0]) (t := 25) ?hr ?_; (case hd => rfl); (case hg => rfl); (case hr => first | (go_simp; done) | (go_simp; rfl)); intro g6 hg w7 hbox hb; have BK6 := Aside0.mk hbox; have NE6 : g5 ≠ g6 := (by rw [hg]; exact Nat.ne_of_lt HS6.out); have BK5' := Aside0.mk (blk_below BK5.out hb); have HB' := Aside0.mk (below_step HB.out hb); have GE6 : w.heap.size ≤ g6 := (by rw [hg]; exact HB.out.size); clear hbox hb hg; have hcz60 : w7.cell? ⟨g6, 0, none⟩ = some (.int .i64 0) := (blk_cell BK6.out 0).trans rfl; have hcz61 : w7.cell? ⟨g6, 1, none⟩ = some (.int .i64 0) := (blk_cell BK6.out 1).trans rfl; have hfz60 := blk_frozen BK6.out 0; have hfz61 := blk_frozen BK6.out 1; have hcz0 : w7.cell? ⟨g5, 0, none⟩ = some (.int .i64 0) := (blk_cell BK5'.out 0).trans rfl; have hcz1 : w7.cell? ⟨g5, 1, none⟩ = some (.int .i64 0) := (blk_cell BK5'.out 1).trans rfl; have hfz0 := blk_frozen BK5'.out 0; have hfz1 := blk_frozen BK5'.out 1)
  go_region
  go_wp2
  refine bodyPost_ret (results_tc rfl _ _ g5 25 #[.int .i64 3, .int .i64 (-100 - idx badPlace l1 0)] (0, 0) _ rfl (blk_drew (blk_put (blk_put (blk_far (blk_far BK5'.out NE6 _) NE6 _) 0 _ rfl) 1 _ rfl)) Try.underlying25 rfl (by kernel_rfl)) rfl ?_
  exact ⟨_, rfl, Kd.R_nil _ _ _ _ _, below_drew (below_set (below_set (below_set (below_set HB'.out GE6) GE6) GE5) GE5)⟩
def ini (i : Nat) : Array Value := #[.int .i64 (if 0 < i then -1 else 0), .int .i64 (if 1 < i then -1 else 0), .int .i64 (if 2 < i then -1 else 0), .int .i64 (if 3 < i then -1 else 0)]
def outOf (r : Except Int (List S53)) : List S53 × Int × Int :=
  match r with
  | .error i => ([], 3, i)
  | .ok out => if 200 < out.length then ([], 10, -3) else (sortNear out, 0, 0)
set_option maxHeartbeats 2000000 in
set_option maxRecDepth 100000 in
theorem calls_run (A0 : Option Addr) (c0 : Nat) (l0 : List (S30)) (A1 : Option Addr) (c1 : Nat) (l1 : List (S59)) (w : World) (hr0 : Kd.C k30 w A0 l0.length l0) (hc0 : l0.length ≤ c0) (hr1 : Kd.C k59 w A1 l1.length l1) (hc1 : l1.length ≤ c1) (h : ¬ 10000 < l0.length) (h' : ¬ 60 < l1.length) (hp : idx badPlace l1 0 < 0) :
    Calls Try.prog 18 #[.slice A0 l0.length c0, .slice A1 l1.length c1] w (Ret w (outOf (callsRun l1 l0 0 [-1, -1, -1, -1] []))) := by
  have hu25 := Try.underlying25
  have hF := placesF l1 l1.length 0 61 (by omega) (by omega) (by omega)
  simp only [List.drop_zero, Int.ofNat_zero] at hF
  replace hF : sampling_placesFault.f 61 l1 = some (0, 0) := by rw [if_pos hp] at hF; exact hF
  have HF := Aside0.mk hF
  have HR0 := Aside0.mk hr0
  have HR1 := Aside0.mk hr1
  have HP := Aside0.mk (idx_no badPlace l1 0 (by omega) hp)
  clear hr0 hr1 hF hp
  go_enter Try.func18, Try.ntmps18
  go_wp2_with ((with_reducible refine gate_dst (N := 5) rfl ?_); refine box_event ?hg (N := 5) ?hd (cs := #[.int .i64 0, .int .i64 0]) (t := 25) ?hr ?_; (case hd => rfl); (case hg => rfl); (case hr => first | (go_simp; done) | (go_simp; rfl)); intro g5 hg w5 hbox hb; have BK5 := Aside0.mk hbox; have BK3 := Aside0.mk (blk_below (heap_alloc_new w _) hb); have HB := Aside0.mk (below_step (below_alloc (Below.refl _ _) _) hb); have GE5 : w.heap.size ≤ g5 := (by rw [hg]; simp); have N35 : w.heap.size ≠ g5 := (by rw [hg]; simp); clear hbox hb hg; have hc3 : w5.cell? ⟨w.heap.size, 0, none⟩ = some (.slice A1 l1.length c1) := (blk_cell BK3.out 0).trans rfl)
  refine (sampling_placesFault.calls 61 A1 c1 l1 _ _ _ (Kd.C_below HR1.out HB.out) hc1 HF.out).mono ?_
  rintro e w6 ⟨rfl, hb6⟩
  replace BK5 := Aside0.mk (blk_below BK5.out hb6)
  replace BK3 := Aside0.mk (blk_below BK3.out hb6)
  replace HB := Aside0.mk (below_step HB.out hb6)
  clear hc3 hb6
  go_wp2_with (first | ((with_reducible refine gate_dst (N := 6) rfl ?_); refine box_event ?hg (N := 6) ?hd (cs := #[.int .i64 0, .int .i64 0]) (t := 25) ?hr ?_; (case hd => rfl); (case hg => rfl); (case hr => first | (go_simp; done) | (go_simp; rfl)); intro g6 hg w7 hbox hb; have BK6 := Aside0.mk hbox; have NE6 : g5 ≠ g6 := (by rw [hg]; exact Nat.ne_of_lt (blk_lt BK5.out)); have N36 : w.heap.size ≠ g6 := (by rw [hg]; exact Nat.ne_of_lt (blk_lt BK3.out)); have BK5' := Aside0.mk (blk_below BK5.out hb); have BK3' := Aside0.mk (blk_below BK3.out hb); have HB' := Aside0.mk (below_step HB.out hb); have GE6 : w.heap.size ≤ g6 := (by rw [hg]; exact HB.out.size); clear hbox hb hg; have hcz60 : w7.cell? ⟨g6, 0, none⟩ = some (.int .i64 0) := (blk_cell BK6.out 0).trans rfl; have hcz61 : w7.cell? ⟨g6, 1, none⟩ = some (.int .i64 0) := (blk_cell BK6.out 1).trans rfl; have hfz60 := blk_frozen BK6.out 0; have hfz61 := blk_frozen BK6.out 1) | ((with_reducible refine gate_dst (N := 8) rfl ?_); refine box_event ?hg (N := 8) ?hd (cs := #[.int .i64 0, .int .i64 0, .int .i64 0, .int .i64 0]) (t := 63) ?hr ?_; (case hd => rfl); (case hg => rfl); (case hr => first | (go_simp; done) | (go_simp; rfl)); intro g8 hg w9 hbox hb; have BK8 := Aside0.mk hbox; have BK5 := Aside0.mk (blk_below (blk_far (blk_far BK5'.out NE6 _) NE6 _) hb); have BK3 := Aside0.mk (blk_below (blk_far (blk_far BK3'.out N36 _) N36 _) hb); have GE8 : w.heap.size ≤ g8 := (by rw [hg]; exact (below_set (below_set HB'.out GE6) GE6).size); have N58 : g5 ≠ g8 := (by rw [hg]; exact Nat.ne_of_lt (blk_lt (blk_far (blk_far BK5'.out NE6 _) NE6 _))); have N38 : w.heap.size ≠ g8 := (by rw [hg]; exact Nat.ne_of_lt (blk_lt (blk_far (blk_far BK3'.out N36 _) N36 _))); have HB := Aside0.mk (below_step (below_set (below_set HB'.out GE6) GE6) hb); clear hbox hb hg hcz60 hcz61 hfz60 hfz61 BK6 BK5' BK3' HB'))
  go_loopw [9, 33] (fun v9 v33 wr => ∃ i : Nat, i ≤ 4 ∧ v33 = .int .i64 i ∧ Aside (wr.heap[g8]? = some (.cells (ini i) 63 (0, 0))) ∧ Aside (wr.heap[g5]? = some (.cells #[.int .i64 0, .int .i64 0] 25 (0, 0))) ∧ Aside (wr.heap[w.heap.size]? = some (.cells #[.slice A1 l1.length c1] 42 (0, 0))) ∧ Aside (Below w.heap.size w wr)) (fun v9 v33 _ => 4 - (intOf v33).toNat)
  case atStart => exact ⟨0, by omega, rfl, BK8.out, BK5.out, BK3.out, HB.out⟩
  case round =>
    obtain ⟨i, hi, rfl, k8, k5, k3, kb⟩ := hrel
    replace BK8 := Aside0.mk k8
    replace BK5 := Aside0.mk k5
    replace BK3 := Aside0.mk k3
    replace HB := Aside0.mk kb
    clear k8 k5 k3 kb
    have hfz0 := blk_frozen BK8.out i
    rcases Nat.lt_or_ge i 4 with hi4 | hi4
    · have hcz : ∃ q, wr.cell? ⟨g8, i, none⟩ = some (.int .i64 q) ∧ (ini i).setIfInBounds i (.int .i64 (-1)) = ini (i + 1) := by
        rcases (by omega : i = 0 ∨ i = 1 ∨ i = 2 ∨ i = 3) with rfl | rfl | rfl | rfl
        · exact ⟨0, (blk_cell BK8.out 0).trans rfl, rfl⟩
        · exact ⟨0, (blk_cell BK8.out 1).trans rfl, rfl⟩
        · exact ⟨0, (blk_cell BK8.out 2).trans rfl, rfl⟩
        · exact ⟨0, (blk_cell BK8.out 3).trans rfl, rfl⟩
      obtain ⟨q, hcz, hin⟩ := hcz
      have HIN := Aside0.mk hin
      clear hin
      go_wp2
      go_roundw
      case rel => exact ⟨i + 1, by omega, by go_num, by first | exact blk_put BK8.out i _ HIN.out | skip, blk_far BK5.out N58 _, blk_far BK3.out N38 _, below_set HB.out GE8⟩
      case measure => simp [intOf]; omega
    · clear hfz0
      have h4 : i = 4 := by omega
      replace BK8 : Aside0 (wr.heap[g8]? = some (.cells (ini 4) 63 (0, 0))) := Aside0.mk (h4 ▸ BK8.out)
      clear h4
      go_wp2
      go_loopw [10, 11, 12, 13, 14, 15, 41] (fun v10 v11 v12 v13 v14 v15 v41 wr => ∃ (i : Nat) (la : List Int) (out : List S53), i ≤ l0.length ∧ v41 = .int .i64 i ∧ Aside (callsRun l1 l0 0 [-1, -1, -1, -1] [] = callsRun l1 (l0.drop i) (i : Int) la out) ∧ Aside (Inv l1.length (i : Int) la out) ∧ Aside (wr.heap[g8]? = some (.cells (la.map (Value.int .i64)).toArray 63 (0, 0))) ∧ Aside (wr.heap[g5]? = some (.cells #[.int .i64 0, .int .i64 0] 25 (0, 0))) ∧ Aside (wr.heap[w.heap.size]? = some (.cells #[.slice A1 l1.length c1] 42 (0, 0))) ∧ Aside (Kd.R k53 53 wr w.heap.size (fun _ => True) v10 out) ∧ Aside (Below w.heap.size w wr)) (fun v10 v11 v12 v13 v14 v15 v41 _ => l0.length - (intOf v41).toNat)
      case atStart => exact ⟨0, [-1, -1, -1, -1], [], by omega, rfl, by rw [List.drop_zero]; rfl, ⟨rfl, fun x hx => by simp at hx; omega, by simp, by simp, by simp⟩, BK8.out, BK5.out, BK3.out, Kd.R_nil _ _ _ _ _, HB.out⟩
      case round =>
        clear BK8 BK5 BK3 HB
        obtain ⟨i, la, out, hi, rfl, kc, kv, k8, k5, k3, ko, kb⟩ := hrel
        have HC := Aside0.mk kc.out
        have HV := Aside0.mk kv.out
        have BK8 := Aside0.mk k8.out
        have BK5 := Aside0.mk k5.out
        have BK3 := Aside0.mk k3.out
        have HO := Aside0.mk ko.out
        have HB := Aside0.mk kb.out
        clear kc kv k8 k5 k3 ko kb
        rcases Nat.lt_or_ge i l0.length with hil | hil
        · obtain ⟨ad, e, hx0, hx1, hx2⟩ := at_T30 (Kd.C_below HR0.out HB.out) (i : Int) (by omega) (by omega)
          simp only [Int.toNat_natCast] at hx0 hx1 hx2
          cases e
          rw [show rd_T30 l0 (i : Int) = l0[i] from by simp [rd_T30, hil]] at hx0 hx1 hx2
          obtain ⟨x, hX⟩ : ∃ x, x = l0[i] := ⟨_, rfl⟩
          rw [← hX] at hx0 hx1 hx2
          have HX := Aside0.mk hX
          clear hX
          go_upto_region 19 with ((with_reducible refine gate_dst (N := 12) rfl ?_); refine box_event ?hg (N := 12) ?hd (cs := #[.int .i64 0, .int .i64 0, .int .i64 0]) (t := 30) ?hr ?_; (case hd => rfl); (case hg => rfl); (case hr => first | (go_simp; done) | (go_simp; rfl)); intro g12 hg w12 hbox hb; have BK12 := Aside0.mk hbox; have HB12 := Aside0.mk hb; have GQ12 := Aside0.mk hg; clear hbox hb hg; have hcz60 : w12.cell? ⟨g12, 0, none⟩ = some (.int .i64 0) := (blk_cell BK12.out 0).trans rfl; have hcz61 : w12.cell? ⟨g12, 1, none⟩ = some (.int .i64 0) := (blk_cell BK12.out 1).trans rfl; have hcz62 : w12.cell? ⟨g12, 2, none⟩ = some (.int .i64 0) := (blk_cell BK12.out 2).trans rfl; have hfz60 := blk_frozen BK12.out 0; have hfz61 := blk_frozen BK12.out 1; have hfz62 := blk_frozen BK12.out 2)
          have G12 : w.heap.size ≤ g12 := by rw [GQ12.out]; exact HB.out.size
          have N812 : g8 ≠ g12 := by rw [GQ12.out]; exact Nat.ne_of_lt (blk_lt BK8.out)
          have N512 : g5 ≠ g12 := by rw [GQ12.out]; exact Nat.ne_of_lt (blk_lt BK5.out)
          have N312 : w.heap.size ≠ g12 := by rw [GQ12.out]; exact Nat.ne_of_lt (blk_lt BK3.out)
          obtain ⟨W, hW⟩ : ∃ W, W = ((w12.setCell ⟨g12, 0, none⟩ (.int .i64 x.f0)).setCell ⟨g12, 1, none⟩ (.int .i64 x.f1)).setCell ⟨g12, 2, none⟩ (.int .i64 x.f2) := ⟨_, rfl⟩
          rw [← hW]
          have BK12W := Aside0.mk (show W.heap[g12]? = some (.cells #[.int .i64 x.f0, .int .i64 x.f1, .int .i64 x.f2] 30 (0, 0)) from hW ▸ blk_put (blk_put (blk_put BK12.out 0 _ rfl) 1 _ rfl) 2 _ rfl)
          have BK8W := Aside0.mk (show W.heap[g8]? = some (.cells (la.map (Value.int .i64)).toArray 63 (0, 0)) from hW ▸ blk_far (blk_far (blk_far (blk_below BK8.out HB12.out) N812 _) N812 _) N812 _)
          have BK5W := Aside0.mk (show W.heap[g5]? = some (.cells #[.int .i64 0, .int .i64 0] 25 (0, 0)) from hW ▸ blk_far (blk_far (blk_far (blk_below BK5.out HB12.out) N512 _) N512 _) N512 _)
          have BK3W := Aside0.mk (show W.heap[w.heap.size]? = some (.cells #[.slice A1 l1.length c1] 42 (0, 0)) from hW ▸ blk_far (blk_far (blk_far (blk_below BK3.out HB12.out) N312 _) N312 _) N312 _)
          have HOW := Aside0.mk (show Kd.R k53 53 W w.heap.size (fun _ => True) u10 out from hW ▸ Kd.R_set (Kd.R_set (Kd.R_set (Kd.R_below HO.out HB12.out) BK12.out (by decide) 0 _) (blk_put BK12.out 0 _ rfl) (by decide) 1 _) (blk_put (blk_put BK12.out 0 _ rfl) 1 _ rfl) (by decide) 2 _)
          have HBW := Aside0.mk (show Below w.heap.size w W from hW ▸ below_set (below_set (below_set (below_step HB.out HB12.out) G12) G12) G12)
          clear hW hcz60 hcz61 hcz62 hfz60 hfz61 hfz62 BK12 BK8 BK5 BK3 HO HB HB12 GQ12 hx0 hx1 hx2
          have e0 : W.cell? ⟨g12, 0, none⟩ = some (.int .i64 x.f0) := (blk_cell BK12W.out 0).trans rfl
          have e1 : W.cell? ⟨g12, 1, none⟩ = some (.int .i64 x.f1) := (blk_cell BK12W.out 1).trans rfl
          have hSt : callsRun l1 (l0.drop i) (i : Int) la out = callsRun l1 (x :: l0.drop (i + 1)) (i : Int) la out := by rw [List.drop_eq_getElem_cons hil, ← HX.out]
          have HST := Aside0.mk (HC.out.trans hSt)
          clear hSt HC
          rcases (by omega : (x.f0 < 0 ∨ 4 ≤ x.f0 ∨ x.f1 < -1 ∨ 1048576 ≤ x.f1) ∨ (0 ≤ x.f0 ∧ x.f0 < 4 ∧ -1 ≤ x.f1 ∧ x.f1 < 1048576)) with hbad | hok
          · have HR := Aside0.mk (show callsRun l1 l0 0 [-1, -1, -1, -1] [] = .error (i : Int) from HST.out.trans (by rw [callsRun, if_pos (by simpa [badEv] using hbad)]))
            have hcz0 : W.cell? ⟨g5, 0, none⟩ = some (.int .i64 0) := (blk_cell BK5W.out 0).trans rfl
            have hcz1 : W.cell? ⟨g5, 1, none⟩ = some (.int .i64 0) := (blk_cell BK5W.out 1).trans rfl
            have hfz0 := blk_frozen BK5W.out 0
            have hfz1 := blk_frozen BK5W.out 1
            rcases (by omega : x.f0 < 0 ∨ (0 ≤ x.f0 ∧ 4 ≤ x.f0) ∨ (0 ≤ x.f0 ∧ x.f0 < 4 ∧ x.f1 < -1) ∨ (0 ≤ x.f0 ∧ x.f0 < 4 ∧ -1 ≤ x.f1 ∧ 1048576 ≤ x.f1)) with b | b | b | b
            all_goals
              clear hbad
              (try obtain ⟨b0, b⟩ := b)
              (try obtain ⟨b1, b⟩ := b)
              (try obtain ⟨b2, b⟩ := b)
              go_wp2
              refine bodyPost_ret (results_tc rfl _ _ g5 25 #[.int .i64 3, .int .i64 (i : Int)] (0, 0) _ rfl (blk_put (blk_put BK5W.out 0 _ rfl) 1 _ rfl) Try.underlying25 rfl (by kernel_rfl)) rfl ?_
              exact ⟨_, by rw [HR.out]; rfl, by rw [HR.out]; exact Kd.R_nil _ _ _ _ _, below_set (below_set HBW.out GE5) GE5⟩
          · obtain ⟨b0, b1, b2, b3⟩ := hok
            rcases (by omega : x.f1 = -1 ∨ 0 ≤ x.f1) with h5 | h5
            · go_wp2
              go_roundw
              case rel => exact ⟨i + 1, la, out, by omega, by go_num, by rw [HST.out, callsRun, if_neg (by simp [badEv]; omega), if_pos h5]; rfl, HV.out.next, BK8W.out, BK5W.out, BK3W.out, HOW.out, HBW.out⟩
              case measure => simp [intOf]; omega
            · have hpl : ∀ y ∈ l1, 0 ≤ y.f0 ∧ y.f0 ≤ 1048576 := fun y hy => by have := HP.out y hy; simp [badPlace] at this; omega
              have H27 := Aside0.mk (part27 A1 c1 l1 w.heap.size x.f1 W (Kd.C_below HR1.out HBW.out) hc1 BK3W.out hpl h5 (by omega) (by omega))
              clear hpl
              go_wp2_with fail
              refine H27.out.mono ?_
              rintro e W1 ⟨rfl, hb1⟩
              obtain ⟨tt, hT⟩ : ∃ tt, tt = idx (inPlace x.f1) l1 0 := ⟨_, rfl⟩
              have hTr : -1 ≤ tt ∧ tt < l1.length := by rw [hT]; have := idx_range (inPlace x.f1) l1 0; omega
              rw [← hT]
              have HT := Aside0.mk hT
              clear hT H27 e0 e1
              replace BK12W := Aside0.mk (blk_below BK12W.out hb1)
              replace BK8W := Aside0.mk (blk_below BK8W.out hb1)
              replace BK5W := Aside0.mk (blk_below BK5W.out hb1)
              replace BK3W := Aside0.mk (blk_below BK3W.out hb1)
              replace HOW := Aside0.mk (Kd.R_below HOW.out hb1)
              replace HBW := Aside0.mk (below_step HBW.out hb1)
              clear hb1
              go_upto_region 23 with ((with_reducible refine gate_dst (N := 13) rfl ?_); refine box_event ?hg (N := 13) ?hd (cs := #[.int .i64 0]) (t := 3) ?hr ?_; (case hd => rfl); (case hg => rfl); (case hr => first | (go_simp; done) | (go_simp; rfl)); intro g13 hg w13 hbox hb; have BK13 := Aside0.mk hbox; have HB13 := Aside0.mk hb; have GQ13 := Aside0.mk hg; clear hbox hb hg; have hcz60 : w13.cell? ⟨g13, 0, none⟩ = some (.int .i64 0) := (blk_cell BK13.out 0).trans rfl; have hfz60 := blk_frozen BK13.out 0)
              have G13 : w.heap.size ≤ g13 := by rw [GQ13.out]; exact HBW.out.size
              have N813 : g8 ≠ g13 := by rw [GQ13.out]; exact Nat.ne_of_lt (blk_lt BK8W.out)
              have N513 : g5 ≠ g13 := by rw [GQ13.out]; exact Nat.ne_of_lt (blk_lt BK5W.out)
              have N313 : w.heap.size ≠ g13 := by rw [GQ13.out]; exact Nat.ne_of_lt (blk_lt BK3W.out)
              have N1213 : g12 ≠ g13 := by rw [GQ13.out]; exact Nat.ne_of_lt (blk_lt BK12W.out)
              obtain ⟨W2, hW⟩ : ∃ W2, W2 = w13.setCell ⟨g13, 0, none⟩ (.int .i64 tt) := ⟨_, rfl⟩
              rw [← hW]
              have CK13 := Aside0.mk (show W2.heap[g13]? = some (.cells #[.int .i64 tt] 3 (0, 0)) from hW ▸ blk_put BK13.out 0 _ rfl)
              have CK12 := Aside0.mk (show W2.heap[g12]? = some (.cells #[.int .i64 x.f0, .int .i64 x.f1, .int .i64 x.f2] 30 (0, 0)) from hW ▸ blk_far (blk_below BK12W.out HB13.out) N1213 _)
              have CK8 := Aside0.mk (show W2.heap[g8]? = some (.cells (la.map (Value.int .i64)).toArray 63 (0, 0)) from hW ▸ blk_far (blk_below BK8W.out HB13.out) N813 _)
              have CK5 := Aside0.mk (show W2.heap[g5]? = some (.cells #[.int .i64 0, .int .i64 0] 25 (0, 0)) from hW ▸ blk_far (blk_below BK5W.out HB13.out) N513 _)
              have CK3 := Aside0.mk (show W2.heap[w.heap.size]? = some (.cells #[.slice A1 l1.length c1] 42 (0, 0)) from hW ▸ blk_far (blk_below BK3W.out HB13.out) N313 _)
              have CO := Aside0.mk (show Kd.R k53 53 W2 w.heap.size (fun _ => True) u10 out from hW ▸ Kd.R_set (Kd.R_below HOW.out HB13.out) BK13.out (by decide) 0 _)
              have CB := Aside0.mk (show Below w.heap.size w W2 from hW ▸ below_set (below_step HBW.out HB13.out) G13)
              clear hW hcz60 hfz60 BK13 BK12W BK8W BK5W BK3W HOW HBW HB13 GQ13
              obtain ⟨n0, hn0⟩ : ∃ n : Nat, x.f0 = n := ⟨x.f0.toNat, by omega⟩
              have hn4 : n0 < 4 := by omega
              have hla : n0 < la.length := by have := HV.out.len; omega
              obtain ⟨fr, hfr⟩ : ∃ fr, fr = la[n0] := ⟨_, rfl⟩
              have hfb : -1 ≤ fr ∧ fr < l1.length := by rw [hfr]; exact HV.out.lab _ (List.getElem_mem hla)
              have hcf : W2.cell? ⟨g8, n0, none⟩ = some (.int .i64 fr) := (blk_cell CK8.out n0).trans (by rw [hfr]; simp [hla])
              have hfq : la.getD x.f0.toNat 0 = fr := by rw [hfr, hn0]; simp [hla]
              have HFR := Aside0.mk hfq
              clear hfr hfq hla
              have e0 : W2.cell? ⟨g12, 0, none⟩ = some (.int .i64 x.f0) := (blk_cell CK12.out 0).trans rfl
              rw [hn0] at e0
              go_upto_region 24 with ((with_reducible refine gate_dst (N := 14) rfl ?_); refine box_event ?hg (N := 14) ?hd (cs := #[.int .i64 0]) (t := 3) ?hr ?_; (case hd => rfl); (case hg => rfl); (case hr => first | (go_simp; done) | (go_simp; rfl)); intro g14 hg w14 hbox hb; have BK14 := Aside0.mk hbox; have HB14 := Aside0.mk hb; have GQ14 := Aside0.mk hg; clear hbox hb hg; have hcz60 : w14.cell? ⟨g14, 0, none⟩ = some (.int .i64 0) := (blk_cell BK14.out 0).trans rfl; have hfz60 := blk_frozen BK14.out 0)
              have G14 : w.heap.size ≤ g14 := by rw [GQ14.out]; exact CB.out.size
              have N814 : g8 ≠ g14 := by rw [GQ14.out]; exact Nat.ne_of_lt (blk_lt CK8.out)
              have N514 : g5 ≠ g14 := by rw [GQ14.out]; exact Nat.ne_of_lt (blk_lt CK5.out)
              have N314 : w.heap.size ≠ g14 := by rw [GQ14.out]; exact Nat.ne_of_lt (blk_lt CK3.out)
              have N1214 : g12 ≠ g14 := by rw [GQ14.out]; exact Nat.ne_of_lt (blk_lt CK12.out)
              have N1314 : g13 ≠ g14 := by rw [GQ14.out]; exact Nat.ne_of_lt (blk_lt CK13.out)
              have N138 : g13 ≠ g8 := blk_ne CK13.out CK8.out (by decide)
              have N148 : g14 ≠ g8 := Ne.symm N814
              have N128 : g12 ≠ g8 := blk_ne CK12.out CK8.out (by decide)
              obtain ⟨W3, hW⟩ : ∃ W3, W3 = w14.setCell ⟨g14, 0, none⟩ (.int .i64 fr) := ⟨_, rfl⟩
              rw [← hW]
              have DK14 := Aside0.mk (show W3.heap[g14]? = some (.cells #[.int .i64 fr] 3 (0, 0)) from hW ▸ blk_put BK14.out 0 _ rfl)
              have DK13 := Aside0.mk (show W3.heap[g13]? = some (.cells #[.int .i64 tt] 3 (0, 0)) from hW ▸ blk_far (blk_below CK13.out HB14.out) N1314 _)
              have DK12 := Aside0.mk (show W3.heap[g12]? = some (.cells #[.int .i64 x.f0, .int .i64 x.f1, .int .i64 x.f2] 30 (0, 0)) from hW ▸ blk_far (blk_below CK12.out HB14.out) N1214 _)
              have DK8 := Aside0.mk (show W3.heap[g8]? = some (.cells (la.map (Value.int .i64)).toArray 63 (0, 0)) from hW ▸ blk_far (blk_below CK8.out HB14.out) N814 _)
              have DK5 := Aside0.mk (show W3.heap[g5]? = some (.cells #[.int .i64 0, .int .i64 0] 25 (0, 0)) from hW ▸ blk_far (blk_below CK5.out HB14.out) N514 _)
              have DK3 := Aside0.mk (show W3.heap[w.heap.size]? = some (.cells #[.slice A1 l1.length c1] 42 (0, 0)) from hW ▸ blk_far (blk_below CK3.out HB14.out) N314 _)
              have DO := Aside0.mk (show Kd.R k53 53 W3 w.heap.size (fun _ => True) u10 out from hW ▸ Kd.R_set (Kd.R_below CO.out HB14.out) BK14.out (by decide) 0 _)
              have DB := Aside0.mk (show Below w.heap.size w W3 from hW ▸ below_set (below_step CB.out HB14.out) G14)
              have hcf3 : ∃ q, W3.cell? ⟨g8, n0, none⟩ = some (.int .i64 q) := by
                have := HV.out.len
                exact ⟨la[n0], (blk_cell DK8.out n0).trans (by simp [show n0 < la.length by omega])⟩
              obtain ⟨q3, hcf3⟩ := hcf3
              have hfz3 := blk_frozen DK8.out n0
              clear hW hcz60 hfz60 BK14 CK12 CK13 CK8 CK5 CK3 CO CB HB14 GQ14 hcf e0
              have e0 : W3.cell? ⟨g12, 0, none⟩ = some (.int .i64 x.f0) := (blk_cell DK12.out 0).trans rfl
              have e13 : W3.cell? ⟨g13, 0, none⟩ = some (.int .i64 tt) := (blk_cell DK13.out 0).trans rfl
              rw [hn0] at e0
              go_upto_region 25 with fail
              clear hcf3 hfz3 e0 e13
              obtain ⟨W4, hW⟩ : ∃ W4, W4 = W3.setCell ⟨g8, n0, none⟩ (.int .i64 tt) := ⟨_, rfl⟩
              rw [← hW]
              have EK14 := Aside0.mk (show W4.heap[g14]? = some (.cells #[.int .i64 fr] 3 (0, 0)) from hW ▸ blk_far DK14.out N148 _)
              have EK13 := Aside0.mk (show W4.heap[g13]? = some (.cells #[.int .i64 tt] 3 (0, 0)) from hW ▸ blk_far DK13.out N138 _)
              have EK12 := Aside0.mk (show W4.heap[g12]? = some (.cells #[.int .i64 x.f0, .int .i64 x.f1, .int .i64 x.f2] 30 (0, 0)) from hW ▸ blk_far DK12.out N128 _)
              have EK8 := Aside0.mk (show W4.heap[g8]? = some (.cells ((la.set n0 tt).map (Value.int .i64)).toArray 63 (0, 0)) from hW ▸ blk_put DK8.out n0 _ (by simp [List.map_set]))
              have EK5 := Aside0.mk (show W4.heap[g5]? = some (.cells #[.int .i64 0, .int .i64 0] 25 (0, 0)) from hW ▸ blk_far DK5.out N58 _)
              have EK3 := Aside0.mk (show W4.heap[w.heap.size]? = some (.cells #[.slice A1 l1.length c1] 42 (0, 0)) from hW ▸ blk_far DK3.out N38 _)
              have EO := Aside0.mk (show Kd.R k53 53 W4 w.heap.size (fun _ => True) u10 out from hW ▸ Kd.R_set DO.out DK8.out (by decide) n0 _)
              have EB := Aside0.mk (show Below w.heap.size w W4 from hW ▸ below_set DB.out GE8)
              have HV2 := Aside0.mk (HV.out.setLa n0 tt hTr)
              clear hW DK14 DK13 DK12 DK8 DK5 DK3 DO DB
              have e12 : W4.cell? ⟨g12, 1, none⟩ = some (.int .i64 x.f1) := (blk_cell EK12.out 1).trans rfl
              have e13 : W4.cell? ⟨g13, 0, none⟩ = some (.int .i64 tt) := (blk_cell EK13.out 0).trans rfl
              have e14 : W4.cell? ⟨g14, 0, none⟩ = some (.int .i64 fr) := (blk_cell EK14.out 0).trans rfl
              have e3 : W4.cell? ⟨w.heap.size, 0, none⟩ = some (.slice A1 l1.length c1) := (blk_cell EK3.out 0).trans rfl
              have HPS := Aside0.mk (show passes l1 (la.getD x.f0.toNat 0) (idx (inPlace x.f1) l1 0) x.f1 = decide (fr < 0 ∨ tt < 0 ∨ fr = tt ∨ x.f1 ≠ (rd_T59 l1 tt).f0) from by rw [HFR.out, ← HT.out]; rfl)
              have HS2 : Aside0 (passes l1 (la.getD x.f0.toNat 0) (idx (inPlace x.f1) l1 0) x.f1 = true → callsRun l1 l0 0 [-1, -1, -1, -1] [] = callsRun l1 (l0.drop (i + 1)) ((i + 1 : Nat) : Int) (la.set n0 tt) out) := ⟨fun hps => by
                rw [HST.out, callsRun, if_neg (by simp [badEv]; omega), if_neg (by omega), if_pos hps, ← HT.out, hn0]; rfl⟩
              have HS3 : Aside0 (passes l1 (la.getD x.f0.toNat 0) (idx (inPlace x.f1) l1 0) x.f1 = false → callsRun l1 l0 0 [-1, -1, -1, -1] [] = callsRun l1 (l0.drop (i + 1)) ((i + 1 : Nat) : Int) (la.set n0 tt) (bump fr tt out)) := ⟨fun hps => by
                rw [HST.out, callsRun, if_neg (by simp [badEv]; omega), if_neg (by omega), if_neg (by rw [hps]; decide), HFR.out, ← HT.out, hn0]; rfl⟩
              rcases (by omega : fr < 0 ∨ (0 ≤ fr ∧ tt < 0) ∨ (0 ≤ fr ∧ 0 ≤ tt ∧ fr = tt) ∨ (0 ≤ fr ∧ 0 ≤ tt ∧ fr ≠ tt)) with q | q | q | q
              · have hd : decide (fr < 0) = true := by simpa using q
                go_quiet (fail)
                go_wp2
                go_roundw
                case rel => exact ⟨i + 1, la.set n0 tt, out, by omega, by go_num, HS2.out (by rw [HPS.out]; simp [q]), HV2.out.next, EK8.out, EK5.out, EK3.out, EO.out, by first | exact EB.out | (apply pw_below_drewN; exact EB.out)⟩
                case measure => simp [intOf]; omega
              · have hd : decide (fr < 0) = false := by simpa using q.1
                have hd2 : decide (tt < 0) = true := by simpa using q.2
                go_quiet (fail)
                go_wp2
                go_roundw
                case rel => exact ⟨i + 1, la.set n0 tt, out, by omega, by go_num, HS2.out (by rw [HPS.out]; simp [q.2]), HV2.out.next, EK8.out, EK5.out, EK3.out, EO.out, by first | exact EB.out | (apply pw_below_drewN; exact EB.out)⟩
                case measure => simp [intOf]; omega
              · have hd : decide (fr < 0) = false := by simpa using q.1
                have hd2 : decide (tt < 0) = false := by simpa using q.2.1
                have hd3 : decide (fr = tt) = true := by simpa using q.2.2
                have hd4 : (fr == tt) = true := by simpa using q.2.2
                go_quiet (fail)
                go_wp2
                go_roundw
                case rel => exact ⟨i + 1, la.set n0 tt, out, by omega, by go_num, HS2.out (by rw [HPS.out]; simp [q.2.2]), HV2.out.next, EK8.out, EK5.out, EK3.out, EO.out, by first | exact EB.out | (apply pw_below_drewN; exact EB.out)⟩
                case measure => simp [intOf]; omega
              · obtain ⟨q0, q1, q2⟩ := q
                have hd : decide (fr < 0) = false := by simpa using q0
                have hd2 : decide (tt < 0) = false := by simpa using q1
                have hd4 : (fr == tt) = false := by simpa using q2
                obtain ⟨ad1, ea, hy0, _, _, _, _⟩ := at_T59 (Kd.C_below HR1.out EB.out) tt q1 (by omega)
                cases ea
                obtain ⟨y0, hY⟩ : ∃ y, y = (rd_T59 l1 tt).f0 := ⟨_, rfl⟩
                rw [← hY] at hy0
                have HY := Aside0.mk hY
                clear hY
                rcases (by omega : x.f1 ≠ y0 ∨ x.f1 = y0) with q5 | q5
                · have hd5 : (x.f1 != y0) = true := by simpa using q5
                  have hd6 : decide (x.f1 ≠ y0) = true := by simpa using q5
                  go_quiet (fail)
                  go_wp2
                  go_roundw
                  case rel => exact ⟨i + 1, la.set n0 tt, out, by omega, by go_num, HS2.out (by rw [HPS.out, ← HY.out]; simp [q5]), HV2.out.next, EK8.out, EK5.out, EK3.out, EO.out, by first | exact EB.out | (apply pw_below_drewN; exact EB.out)⟩
                  case measure => simp [intOf]; omega
                · have hd5 : (x.f1 != y0) = false := by simpa using q5
                  have hd6 : decide (x.f1 ≠ y0) = false := by simpa using q5
                  go_quiet (fail)
                  clear hd hd2 hd4 hd5 hd6 e12 e13 e14 e3 hy0
                  have HS4 := Aside0.mk (HS3.out (by rw [HPS.out, ← HY.out]; simp [q5, q2]; omega))
                  clear HS2 HS3 HPS
                  go_wp2_with fail
                  obtain ⟨A2, c2, hu, hnc, hC2⟩ := Kd.R_reads EO.out
                  subst hu
                  have hol : out.length ≤ i := by have := HV2.out.cnt; omega
                  refine (index30 A2 c2 out g14 g13 fr tt (W4.drewN nq) (Kd.C_drewN hC2 nq) hnc EK14.out EK13.out (by omega)).mono ?_
                  rintro e W6 ⟨rfl, hb6⟩
                  clear hC2
                  have FK14 := Aside0.mk (blk_below (blk_drewN EK14.out nq) hb6)
                  have FK13 := Aside0.mk (blk_below (blk_drewN EK13.out nq) hb6)
                  have FK8 := Aside0.mk (blk_below (blk_drewN EK8.out nq) hb6)
                  have FK5 := Aside0.mk (blk_below (blk_drewN EK5.out nq) hb6)
                  have FK3 := Aside0.mk (blk_below (blk_drewN EK3.out nq) hb6)
                  have FO := Aside0.mk (Kd.R_below (Kd.R_drewN EO.out nq) hb6)
                  have FB := Aside0.mk (below_step (pw_below_drewN EB.out nq) hb6)
                  have HI2 := Aside0.mk (HV2.out.bump fr tt ⟨q0, hfb.2⟩ ⟨q1, hTr.2⟩ (by omega))
                  obtain ⟨k, hK⟩ : ∃ k, k = idx (isNear fr tt) out 0 := ⟨_, rfl⟩
                  have hkr : k = -1 ∨ (0 ≤ k ∧ k < out.length) := by rw [hK]; have := idx_range (isNear fr tt) out 0; omega
                  have HBU := Aside0.mk (show bump fr tt out = if k < 0 then out ++ [⟨fr, tt, 1⟩] else out.set k.toNat ⟨(rd_T53 out k).f0, (rd_T53 out k).f1, (rd_T53 out k).f2 + 1⟩ from by rw [hK]; rfl)
                  rw [← hK]
                  clear hK hb6 EK14 EK13 EK8 EK5 EK3 EO EB EK12
                  rcases hkr with hk | ⟨hk0, hk1⟩
                  · have e13 : W6.cell? ⟨g13, 0, none⟩ = some (.int .i64 tt) := (blk_cell FK13.out 0).trans rfl
                    have e14 : W6.cell? ⟨g14, 0, none⟩ = some (.int .i64 fr) := (blk_cell FK14.out 0).trans rfl
                    subst hk
                    obtain ⟨out2, hO2⟩ : ∃ o, o = out ++ [(⟨fr, tt, 0⟩ : S53)] := ⟨_, rfl⟩
                    have hl2 : out2.length = out.length + 1 := by rw [hO2]; simp
                    have HCY := Aside0.mk (show (cells53 out2)[out.length * 3 + 2]? = some (.int .i64 0) from by
                      have := (cells53_get out2 out.length (by omega)).2.2
                      rw [this]; simp [hO2])
                    have HS := Aside0.mk (show (cells53 out2).set (out.length * 3 + 2) (.int .i64 1) = cells53 (bump fr tt out) from by
                      rw [cells53_set out2 out.length (by omega), HBU.out, if_pos (by decide)]; simp [hO2])
                    have HBL := Aside0.mk (show (bump fr tt out).length = out2.length from by rw [HBU.out, if_pos (by decide), hO2]; simp)
                    have HN8 := Aside0.mk (Kd.R_ne FO.out FK8.out (by decide))
                    have HN5 := Aside0.mk (Kd.R_ne FO.out FK5.out (by decide))
                    have HN3 := Aside0.mk (Kd.R_ne FO.out FK3.out (by decide))
                    have HO2 := Aside0.mk hO2
                    clear hO2 HBU
                    go_wp2_with ((with_reducible refine gate_builtin (b := .append) (xs := #[.tmp 109, .tmp 113]) rfl ?_); at_builtin; refine Kd.R_append k53 (w0 := w) w.heap.size rfl (.tmp 109) (.tmp 113) 46 53 (.agg #[(.int .i64 0), (.int .i64 0), (.int .i64 0)]) 24 rfl Try.underlying46 info53 rfl (by decide) (by omega) (.slice A2 out.length c2) out (⟨fr, tt, 0⟩ : S53) [.int .i64 fr, .int .i64 tt, .int .i64 0] (fun _ => True) (fun _ => False) rfl rfl ?aP (fun _ hk => hk.elim) ?aF ?aO ?aB ?aS ?aL ?_; (case aP => exact k53_mkM _ _ _ (⟨fr, tt, 0⟩ : S53)); (case aB => exact FB.out); (case aF => exact (fun _ _ => trivial)); (case aO => exact FO.out); (case aS => exact FB.out.size); (case aL => omega); intro v7 w7' ho hb hg hat; rw [← HO2.out] at ho; obtain ⟨g, cap, hv, hbg, hlg, hcs⟩ := Kd.R_form ho (by omega); subst hv; have FR := Aside0.mk (R53_raw ho); have HCS := Aside0.mk hcs; have GK8 := Aside0.mk (blk_grown FK8.out hg HN8.out); have GK5 := Aside0.mk (blk_grown FK5.out hg HN5.out); have GK3 := Aside0.mk (blk_grown FK3.out hg HN3.out); have GB := Aside0.mk hb; clear ho hb hg hat hcs e13 e14; have hc1 := FR.out.cells (g := g) rfl _ _ HCY.out; rw [Addr.add_lit, Nat.zero_add] at hc1; have hfz := FR.out.frozenAt (out.length * 3 + 2))
                    go_roundw
                    case rel =>
                      have hst := (FR.out.stored (out.length * 3 + 2) (.int .i64 1)).1
                      rw [HS.out] at hst
                      obtain ⟨cs, hcs⟩ := HCS.out
                      have hR : Kd.R k53 53 (w7'.setCell ⟨g, out.length * 3 + 2, none⟩ (.int .i64 1)) w.heap.size (fun _ => True) (.slice (some ⟨g, 0, none⟩) out2.length cap) (bump fr tt out) := R53_mk (by rw [HBL.out]; exact hst)
                      exact ⟨i + 1, la.set n0 tt, bump fr tt out, by omega, by go_num, HS4.out, HI2.out, blk_far GK8.out (blk_ne GK8.out hcs (by decide)) _, blk_far GK5.out (blk_ne GK5.out hcs (by decide)) _, blk_far GK3.out (blk_ne GK3.out hcs (by decide)) _, by rw [← hl2]; exact hR, below_set GB.out hbg⟩
                    case measure => simp [intOf]; omega
                  · obtain ⟨kn, rfl⟩ : ∃ kn : Nat, k = kn := ⟨k.toNat, by omega⟩
                    have hkl : kn < out.length := by omega
                    obtain ⟨g, cap, hv, hbg, hlg, hcs⟩ := Kd.R_form FO.out (by omega)
                    have HCS := Aside0.mk hcs
                    clear hcs
                    injection hv with hv1 hv2 hv3
                    subst hv1 hv3
                    have FR := Aside0.mk (R53_raw FO.out)
                    have hy2 := HV2.out.ob out[kn] (List.getElem_mem hkl)
                    obtain ⟨y2, hY2⟩ : ∃ y, y = out[kn].f2 := ⟨_, rfl⟩
                    have hcy := (cells53_get out kn hkl).2.2
                    rw [← hY2] at hcy hy2
                    have hc1 := FR.out.cells (g := g) rfl _ _ hcy
                    rw [Addr.add_lit, Nat.zero_add] at hc1
                    have hfz := FR.out.frozenAt (kn * 3 + 2)
                    have HS := Aside0.mk (cells53_set out kn hkl (y2 + 1))
                    have HBV := Aside0.mk (show bump fr tt out = out.set kn ⟨out[kn].f0, out[kn].f1, y2 + 1⟩ from by rw [HBU.out, if_neg (by omega), rd53 out kn hkl, ← hY2]; simp)
                    clear hcy hY2 HBU
                    go_wp2
                    go_roundw
                    case rel =>
                      have hst := (FR.out.stored (kn * 3 + 2) (.int .i64 (y2 + 1))).1
                      rw [HS.out, ← HBV.out] at hst
                      have hbl : (bump fr tt out).length = out.length := by rw [HBV.out]; simp
                      obtain ⟨cs, hcs⟩ := HCS.out
                      exact ⟨i + 1, la.set n0 tt, bump fr tt out, by omega, by go_num, HS4.out, HI2.out, blk_far FK8.out (blk_ne FK8.out hcs (by decide)) _, blk_far FK5.out (blk_ne FK5.out hcs (by decide)) _, blk_far FK3.out (blk_ne FK3.out hcs (by decide)) _, R53_mk (by rw [hbl]; exact hst), below_set FB.out hbg⟩
                    case measure => simp [intOf]; omega
        · obtain rfl : i = l0.length := by omega
          have HR := Aside0.mk (show callsRun l1 l0 0 [-1, -1, -1, -1] [] = .ok out from HC.out.trans (by rw [List.drop_length]; rfl))
          obtain ⟨A2, c2, hu, hnc, hC2⟩ := Kd.R_reads HO.out
          subst hu
          clear HC hC2
          rcases Nat.lt_or_ge 200 out.length with h2 | h2
          · have hcz0 : wr.cell? ⟨g5, 0, none⟩ = some (.int .i64 0) := (blk_cell BK5.out 0).trans rfl
            have hcz1 : wr.cell? ⟨g5, 1, none⟩ = some (.int .i64 0) := (blk_cell BK5.out 1).trans rfl
            have hfz0 := blk_frozen BK5.out 0
            have hfz1 := blk_frozen BK5.out 1
            go_wp2
            refine bodyPost_ret (results_tc rfl _ _ g5 25 #[.int .i64 10, .int .i64 (-3)] (0, 0) _ rfl (blk_put (blk_put BK5.out 0 _ rfl) 1 _ rfl) Try.underlying25 rfl (by kernel_rfl)) rfl ?_
            have e : outOf (callsRun l1 l0 0 [-1, -1, -1, -1] []) = ([], 10, -3) := by rw [HR.out]; simp [outOf, h2]
            exact ⟨_, by rw [e], by rw [e]; exact Kd.R_nil _ _ _ _ _, below_set (below_set HB.out GE5) GE5⟩
          · go_wp2_with fail
            refine (sort32 w.heap.size wr (.slice A2 out.length c2) out (R53_raw HO.out) (fun y hy => by have := HV.out.ob y hy; omega) HV.out.keys h2).mono ?_
            rintro e W2 ⟨rfl, hown, hg⟩
            have GK5 := Aside0.mk (blk_grown BK5.out hg (Kd.R_ne HO.out BK5.out (by decide)))
            have GB := Aside0.mk (HB.out.grown hg HB.out.size (own_base (R53_raw HO.out)))
            have hsl : (sortNear out).length = out.length := (List.mergeSort_perm out leNear).length_eq
            have GO := Aside0.mk (show Kd.R k53 53 W2 w.heap.size (fun _ => True) (.slice A2 out.length c2) (sortNear out) from R53_mk (by rw [hsl]; exact hown))
            clear hg hown hsl BK5 BK8 BK3 HO HB
            have hcz0 : W2.cell? ⟨g5, 0, none⟩ = some (.int .i64 0) := (blk_cell GK5.out 0).trans rfl
            have hcz1 : W2.cell? ⟨g5, 1, none⟩ = some (.int .i64 0) := (blk_cell GK5.out 1).trans rfl
            have hfz0 := blk_frozen GK5.out 0
            have hfz1 := blk_frozen GK5.out 1
            go_wp2
            refine bodyPost_ret (results_tc rfl _ _ g5 25 #[.int .i64 0, .int .i64 0] (0, 0) _ rfl (blk_put (blk_put GK5.out 0 _ rfl) 1 _ rfl) Try.underlying25 rfl (by kernel_rfl)) rfl ?_
            have e : outOf (callsRun l1 l0 0 [-1, -1, -1, -1] []) = (sortNear out, 0, 0) := by rw [HR.out]; simp [outOf, Nat.not_lt.2 h2]
            exact ⟨_, by rw [e], by rw [e]; exact Kd.R_set (Kd.R_set GO.out GK5.out (by decide) 0 _) (blk_put GK5.out 0 _ rfl) (by decide) 1 _, below_set (below_set GB.out GE5) GE5⟩
theorem sampling_Calls.calls (A0 : Option Addr) (c0 : Nat) (l0 : List (S30)) (A1 : Option Addr) (c1 : Nat) (l1 : List (S59)) (r1 : List (S53)) (r2 : Int) (r3 : Int) (w : World) (hr0 : Kd.C k30 w A0 l0.length l0) (hc0 : l0.length ≤ c0) (hr1 : Kd.C k59 w A1 l1.length l1) (hc1 : l1.length ≤ c1) (h : sampling_Calls.f l0 l1 = some (r1, r2, r3)) :
    Calls Try.prog 18 #[.slice A0 l0.length c0, .slice A1 l1.length c1] w fun e w' => ∃ v0_ : Value, e = .returned (.tuple #[v0_, .agg #[.int .i64 r2, .int .i64 r3]]) ∧ Kd.R k53 53 w' w.heap.size (fun _ => True) v0_ r1 ∧ Below w.heap.size w w' := by
  have h' := Option.some.inj h
  clear h
  by_cases c2 : 10000 < l0.length
  · rw [if_pos c2] at h'
    have := calls_long A0 c0 l0 A1 c1 l1 w c2
    rw [h'] at this
    exact this
  rw [if_neg c2] at h'
  by_cases c3 : 60 < l1.length
  · rw [if_pos c3] at h'
    have := calls_many A0 c0 l0 A1 c1 l1 w c2 c3
    rw [h'] at this
    exact this
  rw [if_neg c3] at h'
  by_cases c4 : idx badPlace l1 0 < 0
  · rw [if_pos c4] at h'
    have := calls_run A0 c0 l0 A1 c1 l1 w hr0 hc0 hr1 hc1 c2 c3 c4
    have e : outOf (callsRun l1 l0 0 [-1, -1, -1, -1] []) = (r1, r2, r3) := h'
    rw [e] at this
    exact this
  · rw [if_neg c4] at h'
    have := calls_place A0 c0 l0 A1 c1 l1 w hr1 hc1 c2 c3 c4
    rw [h'] at this
    exact this
end Go.Proofs.Ytjchmckbhfoopaa.PP
