/- sampling.Calls: its first closure, and the fault of parts in plain Lean. Conditions: those of each contract. -/
import Derived.Test.YtjchmckbhfoopaaPProw
import Derived.Test.YtjchmckbhfoopaaPPx8
namespace Go.Proofs.Ytjchmckbhfoopaa.PP
open Go.RowKit Go.Proofs.YtjchmckbhfoopaaW.PrintWords Go.Proofs.YtjchmckbhfoopaaW.PrintLast Go.Proofs.YtjchmckbhfoopaaW.PrintMore
set_option linter.unusedVariables false
set_option linter.unusedSimpArgs false
set_option maxHeartbeats 400000 in
theorem part27 (A1 : Option Addr) (c1 : Nat) (l1 : List S59) (g : Nat) (a : Int) (w : World) (hr1 : Kd.C k59 w A1 l1.length l1) (hc1 : l1.length ≤ c1) (hg : w.heap[g]? = some (.cells #[.slice A1 l1.length c1] 42 (0, 0)))
    (hb : ∀ x ∈ l1, 0 ≤ x.f0 ∧ x.f0 ≤ 1048576) (h2 : 0 ≤ a) (h3 : a ≤ 1048576) (hl : l1.length < 8000000000000) :
    Calls Try.prog 27 #[.int .i64 a, .pointer (some ⟨g, 0, none⟩)] w fun e w' => e = .returned (.int .i64 (idx (inPlace a) l1 0)) ∧ Below w.heap.size w w' := by
  have hc : (w.alloc (.cells #[.int .i64 a] 3)).cell? ⟨g, 0, none⟩ = some (.slice A1 l1.length c1) := (blk_cell (blk_alloc hg _) 0).trans rfl
  have hB : Below w.heap.size w (w.alloc (.cells #[.int .i64 a] 3)) := below_alloc (Below.refl _ _) _
  have HI := Aside0.mk (index28 A1 c1 l1 w.heap.size a (w.alloc (.cells #[.int .i64 a] 3)) (Kd.C_below hr1 hB) hc1 (heap_alloc_new w _) hb h2 h3 hl)
  clear hr1 hb hg hB
  go_enter Try.func27, Try.ntmps27
  go_wp2_with fail
  refine HI.out.mono ?_
  rintro e W1 ⟨rfl, hbel⟩
  have HB := Aside0.mk hbel
  clear hbel
  go_wp2_with fail
  go_ret
  exact ⟨rfl, (below_alloc (Below.refl _ _) _).trans (by simpa using HB.out.mono (by simp))⟩
theorem placesF : ∀ (l : List S59) (m j k : Nat), l.length ≤ 60 → j + m = l.length → m < k → sampling_placesFault.l0 k l (l.length : Int) (j : Int) = some (if idx badPlace (l.drop j) (j : Int) < 0 then (0, 0) else (3, -100 - idx badPlace (l.drop j) (j : Int)))
  | l, 0, j, k, hl, hj, hk => by
    obtain ⟨k, rfl⟩ : ∃ q, k = q + 1 := ⟨k - 1, by omega⟩
    obtain rfl : j = l.length := by omega
    simp [sampling_placesFault.l0, idx]
  | l, m + 1, j, k, hl, hj, hk => by
    obtain ⟨k, rfl⟩ : ∃ q, k = q + 1 := ⟨k - 1, by omega⟩
    have hjl : j < l.length := by omega
    have ih := placesF l m (j + 1) k hl (by omega) (by omega)
    have hw : wrap64 ((j : Int) + 1) = ((j + 1 : Nat) : Int) := by unfold wrap64; omega
    have hw' : wrap64 (-100 - (j : Int)) = -100 - (j : Int) := by unfold wrap64; omega
    rw [sampling_placesFault.l0, if_pos (by omega), if_pos (by omega), if_pos (by omega), rd59 l j hjl, hw, hw', ih, idx_step badPlace l j hjl]
    have hj0 : ¬ ((j : Int) < 0) := by omega
    by_cases h1 : l[j].f0 < 0
    · simp [badPlace, h1, hj0]
    by_cases h2 : l[j].f0 ≥ 1048576
    · have : 1048576 ≤ l[j].f0 := h2
      simp [badPlace, h1, this, hj0]
    by_cases h3 : l[j].f1 < 0
    · simp [badPlace, h1, h2, h3, hj0]
    by_cases h4 : l[j].f1 > 1048576
    · have : 1048576 < l[j].f1 := h4
      simp [badPlace, h1, h2, h3, this, hj0]
    · have hb : badPlace l[j] = false := by simp [badPlace]; omega
      rw [if_neg h1, if_neg h2, if_neg h3, if_neg h4]
      simp [hb]
end Go.Proofs.Ytjchmckbhfoopaa.PP
