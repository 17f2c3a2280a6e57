/- The closures of sampling.Calls and its two slices.IndexFunc: contracts. Conditions: those of each contract. -/
import Derived.Test.YtjchmckbhfoopaaPPadd
namespace Go.Proofs.Ytjchmckbhfoopaa.PP
open Go.RowKit Go.Proofs.YtjchmckbhfoopaaW.PrintWords Go.Proofs.YtjchmckbhfoopaaW.PrintLast Go.Proofs.YtjchmckbhfoopaaW.PrintMore
set_option linter.unusedVariables false
set_option linter.unusedSimpArgs false
set_option maxHeartbeats 400000 in
theorem in29 (g : Nat) (a x0 x1 x2 x3 x4 : Int) (w : World) (hg : w.heap[g]? = some (.cells #[.int .i64 a] 3 (0, 0))) (h0 : 0 ≤ x0) (h1 : x0 ≤ 1048576) (h2 : 0 ≤ a) (h3 : a ≤ 1048576) :
    Calls Try.prog 29 #[.agg #[.int .i64 x0, .int .i64 x1, .int .i64 x2, .int .i64 x3, .int .i64 x4], .pointer (some ⟨g, 0, none⟩)] w fun e w' => e = .returned (.bool (decide (x0 ≤ a ∧ a - x0 < x1))) ∧ w' = w.alloc (.cells #[.int .i64 x0, .int .i64 x1, .int .i64 x2, .int .i64 x3, .int .i64 x4] 59) := by
  have hc : (w.alloc (.cells #[.int .i64 x0, .int .i64 x1, .int .i64 x2, .int .i64 x3, .int .i64 x4] 59)).cell? ⟨g, 0, none⟩ = some (.int .i64 a) := (blk_cell (blk_alloc hg _) 0).trans rfl
  by_cases hx : x0 ≤ a
  · have hd : decide (x0 ≤ a) = true := by simpa using hx
    go_enter Try.func29, Try.ntmps29
    go_wp2
    go_ret
    exact ⟨by simp [hx], rfl⟩
  · have hd : decide (x0 ≤ a) = false := by simpa using hx
    go_enter Try.func29, Try.ntmps29
    go_wp2
    go_ret
    exact ⟨by simp [hx], rfl⟩
set_option maxHeartbeats 400000 in
theorem is31 (g g' : Nat) (a b x0 x1 x2 : Int) (w : World) (hg : w.heap[g]? = some (.cells #[.int .i64 a] 3 (0, 0))) (hg' : w.heap[g']? = some (.cells #[.int .i64 b] 3 (0, 0))) :
    Calls Try.prog 31 #[.agg #[.int .i64 x0, .int .i64 x1, .int .i64 x2], .pointer (some ⟨g, 0, none⟩), .pointer (some ⟨g', 0, none⟩)] w fun e w' => e = .returned (.bool (decide (x0 = a ∧ x1 = b))) ∧ w' = w.alloc (.cells #[.int .i64 x0, .int .i64 x1, .int .i64 x2] 53) := by
  have hc : (w.alloc (.cells #[.int .i64 x0, .int .i64 x1, .int .i64 x2] 53)).cell? ⟨g, 0, none⟩ = some (.int .i64 a) := (blk_cell (blk_alloc hg _) 0).trans rfl
  have hc' : (w.alloc (.cells #[.int .i64 x0, .int .i64 x1, .int .i64 x2] 53)).cell? ⟨g', 0, none⟩ = some (.int .i64 b) := (blk_cell (blk_alloc hg' _) 0).trans rfl
  by_cases hx : x0 = a
  · subst hx
    go_enter Try.func31, Try.ntmps31
    go_wp2
    go_ret
    exact ⟨by simp; rw [Bool.eq_iff_iff]; simp, rfl⟩
  · have hd : decide (x0 = a) = false := by simpa using hx
    go_enter Try.func31, Try.ntmps31
    go_wp2
    go_ret
    exact ⟨by simp [hx], rfl⟩
def keyCmp (a b c d : Int) : Int := if a = c then b - d else a - c
set_option maxHeartbeats 400000 in
theorem cmp33 (x0 x1 x2 y0 y1 y2 : Int) (w : World) (h0 : 0 ≤ x0) (h1 : x0 < 64) (h2 : 0 ≤ x1) (h3 : x1 < 64) (k0 : 0 ≤ y0) (k1 : y0 < 64) (k2 : 0 ≤ y1) (k3 : y1 < 64) :
    Calls Try.prog 33 #[.agg #[.int .i64 x0, .int .i64 x1, .int .i64 x2], .agg #[.int .i64 y0, .int .i64 y1, .int .i64 y2]] w fun e w' => e = .returned (.int .i64 (keyCmp x0 x1 y0 y1)) ∧ w' = (w.alloc (.cells #[.int .i64 x0, .int .i64 x1, .int .i64 x2] 53)).alloc (.cells #[.int .i64 y0, .int .i64 y1, .int .i64 y2] 53) := by
  by_cases hx : x0 = y0
  · subst hx
    go_enter Try.func33, Try.ntmps33
    go_wp2
    go_ret
    exact ⟨by simp [keyCmp], rfl⟩
  · go_enter Try.func33, Try.ntmps33
    go_wp2
    go_ret
    exact ⟨by simp [keyCmp, hx], rfl⟩
/-- The first place from index i on whose element answers yes; -1 where none does. -/
def idx {α : Type} (p : α → Bool) : List α → Int → Int
  | [], _ => -1
  | x :: xs, i => if p x = true then i else idx p xs (i + 1)
def inPlace (a : Int) (x : S59) : Bool := decide (x.f0 ≤ a ∧ a - x.f0 < x.f1)
def isNear (a b : Int) (x : S53) : Bool := decide (x.f0 = a ∧ x.f1 = b)
theorem rd59 (l : List S59) (j : Nat) (h : j < l.length) : rd_T59 l (j : Int) = l[j] := by simp [rd_T59, h]
theorem rd53 (l : List S53) (j : Nat) (h : j < l.length) : rd_T53 l (j : Int) = l[j] := by simp [rd_T53, h]
theorem idx_step {α : Type} (p : α → Bool) (l : List α) (j : Nat) (h : j < l.length) : idx p (l.drop j) (j : Int) = if p l[j] = true then (j : Int) else idx p (l.drop (j + 1)) ((j + 1 : Nat) : Int) := by
  rw [List.drop_eq_getElem_cons h, idx]
  push_cast
  rfl
set_option maxHeartbeats 1000000 in
set_option maxRecDepth 100000 in
theorem index28 (A0 : Option Addr) (c0 : Nat) (l0 : List S59) (g : Nat) (a : Int) (w : World) (hr0 : Kd.C k59 w A0 l0.length l0) (hc0 : l0.length ≤ c0) (hg : w.heap[g]? = some (.cells #[.int .i64 a] 3 (0, 0)))
    (hb : ∀ x ∈ l0, 0 ≤ x.f0 ∧ x.f0 ≤ 1048576) (h2 : 0 ≤ a) (h3 : a ≤ 1048576) (hl : l0.length < 8000000000000) :
    Calls Try.prog 28 #[.slice A0 l0.length c0, .func (.func 29) #[] #[.pointer (some ⟨g, 0, none⟩)]] w fun e w' => e = .returned (.int .i64 (idx (inPlace a) l0 0)) ∧ Below w.heap.size w w' := by
  have HR0 := Aside0.mk hr0
  have HB := Aside0.mk hb
  have HG := Aside0.mk hg
  clear hr0 hb hg
  go_enter Try.func28, Try.ntmps28
  go_wp2
  go_loopw [5, 8] (fun v5 v8 wr => ∃ i : Nat, i ≤ l0.length ∧ v8 = .int .i64 i ∧ idx (inPlace a) l0 0 = idx (inPlace a) (l0.drop i) (i : Int) ∧ Below w.heap.size w wr) (fun v5 v8 _ => l0.length - (intOf v8).toNat)
  case atStart => exact ⟨0, Nat.zero_le _, rfl, by simp, Below.refl _ _⟩
  case round =>
    obtain ⟨i, hi, rfl, hq, hbel⟩ := hrel
    have HQ := Aside0.mk hq
    clear hq
    by_cases hij : i < l0.length
    · obtain ⟨ad, e, hx0, hx1, hx2, hx3, hx4⟩ := at_T59 (Kd.C_below HR0.out hbel) (i : Int) (by omega) (by omega)
      simp only [Int.toNat_natCast] at hx0 hx1 hx2 hx3 hx4
      cases e
      have HS := Aside0.mk (idx_step (inPlace a) l0 i hij)
      have hbm := HB.out _ (List.getElem_mem hij)
      rw [rd59 l0 i hij] at hx0 hx1 hx2 hx3 hx4
      obtain ⟨x, hX⟩ : ∃ x, x = l0[i] := ⟨_, rfl⟩
      rw [← hX] at hx0 hx1 hx2 hx3 hx4 hbm
      have HX := Aside0.mk hX
      clear hX
      by_cases hlt : x.f0 ≤ a ∧ a - x.f0 < x.f1
      · have hp : decide (x.f0 ≤ a ∧ a - x.f0 < x.f1) = true := by simpa using hlt
        go_wp2_with (go_at_call 29; refine (in29 g a x.f0 x.f1 x.f2 x.f3 x.f4 _ (blk_below HG.out hbel) hbm.1 hbm.2 h2 h3).mono ?_; rintro e w' ⟨rfl, rfl⟩; rw [hp])
        go_ret
        refine ⟨?_, hbel.trans ((Below.refl _ _).alloc hbel.size _)⟩
        rw [HQ.out, HS.out, ← HX.out, if_pos (by simpa [inPlace] using hlt)]
        rfl
      · have hp : decide (x.f0 ≤ a ∧ a - x.f0 < x.f1) = false := by simpa using hlt
        go_wp2_with (go_at_call 29; refine (in29 g a x.f0 x.f1 x.f2 x.f3 x.f4 _ (blk_below HG.out hbel) hbm.1 hbm.2 h2 h3).mono ?_; rintro e w' ⟨rfl, rfl⟩; rw [hp])
        go_roundw
        case rel =>
          refine ⟨i + 1, by omega, by go_num, ?_, hbel.trans ((Below.refl _ _).alloc hbel.size _)⟩
          rw [HQ.out, HS.out, ← HX.out, if_neg (by simpa [inPlace] using hlt)]
        case measure => simp [intOf]; omega
    · obtain rfl : i = l0.length := by omega
      go_wp2_with fail
      go_ret
      refine ⟨?_, hbel⟩
      rw [HQ.out, List.drop_length]
      rfl
set_option maxHeartbeats 1000000 in
set_option maxRecDepth 100000 in
theorem index30 (A0 : Option Addr) (c0 : Nat) (l0 : List S53) (g g' : Nat) (a b : Int) (w : World) (hr0 : Kd.C k53 w A0 l0.length l0) (hc0 : l0.length ≤ c0) (hg : w.heap[g]? = some (.cells #[.int .i64 a] 3 (0, 0))) (hg' : w.heap[g']? = some (.cells #[.int .i64 b] 3 (0, 0)))
    (hl : l0.length < 8000000000000) :
    Calls Try.prog 30 #[.slice A0 l0.length c0, .func (.func 31) #[] #[.pointer (some ⟨g, 0, none⟩), .pointer (some ⟨g', 0, none⟩)]] w fun e w' => e = .returned (.int .i64 (idx (isNear a b) l0 0)) ∧ Below w.heap.size w w' := by
  have HR0 := Aside0.mk hr0
  have HG := Aside0.mk hg
  have HG' := Aside0.mk hg'
  clear hr0 hg hg'
  go_enter Try.func30, Try.ntmps30
  go_wp2
  go_loopw [5, 8] (fun v5 v8 wr => ∃ i : Nat, i ≤ l0.length ∧ v8 = .int .i64 i ∧ idx (isNear a b) l0 0 = idx (isNear a b) (l0.drop i) (i : Int) ∧ Below w.heap.size w wr) (fun v5 v8 _ => l0.length - (intOf v8).toNat)
  case atStart => exact ⟨0, Nat.zero_le _, rfl, by simp, Below.refl _ _⟩
  case round =>
    obtain ⟨i, hi, rfl, hq, hbel⟩ := hrel
    have HQ := Aside0.mk hq
    clear hq
    by_cases hij : i < l0.length
    · obtain ⟨ad, e, hx0, hx1, hx2⟩ := at_T53 (Kd.C_below HR0.out hbel) (i : Int) (by omega) (by omega)
      simp only [Int.toNat_natCast] at hx0 hx1 hx2
      cases e
      have HS := Aside0.mk (idx_step (isNear a b) l0 i hij)
      rw [rd53 l0 i hij] at hx0 hx1 hx2
      obtain ⟨x, hX⟩ : ∃ x, x = l0[i] := ⟨_, rfl⟩
      rw [← hX] at hx0 hx1 hx2
      have HX := Aside0.mk hX
      clear hX
      by_cases hlt : x.f0 = a ∧ x.f1 = b
      · have hp : decide (x.f0 = a ∧ x.f1 = b) = true := by simpa using hlt
        have HL := Aside0.mk hlt
        clear hlt
        go_wp2_with (go_at_call 31; refine (is31 g g' a b x.f0 x.f1 x.f2 _ (blk_below HG.out hbel) (blk_below HG'.out hbel)).mono ?_; rintro e w' ⟨rfl, rfl⟩; rw [hp])
        go_ret
        refine ⟨?_, hbel.trans ((Below.refl _ _).alloc hbel.size _)⟩
        rw [HQ.out, HS.out, ← HX.out, if_pos (by simpa [isNear] using HL.out)]
        rfl
      · have hp : decide (x.f0 = a ∧ x.f1 = b) = false := by simpa using hlt
        go_wp2_with (go_at_call 31; refine (is31 g g' a b x.f0 x.f1 x.f2 _ (blk_below HG.out hbel) (blk_below HG'.out hbel)).mono ?_; rintro e w' ⟨rfl, rfl⟩; rw [hp])
        go_roundw
        case rel =>
          refine ⟨i + 1, by omega, by go_num, ?_, hbel.trans ((Below.refl _ _).alloc hbel.size _)⟩
          rw [HQ.out, HS.out, ← HX.out, if_neg (by simpa [isNear] using hlt)]
        case measure => simp [intOf]; omega
    · obtain rfl : i = l0.length := by omega
      go_wp2_with fail
      go_ret
      refine ⟨?_, hbel⟩
      rw [HQ.out, List.drop_length]
      rfl
end Go.Proofs.Ytjchmckbhfoopaa.PP
