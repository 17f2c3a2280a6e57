/- A slice of structs of whole numbers that came in, read as a list. Conditions: none. -/
import Derived.Test.YtjchmckbhfoopaaPPx0
import Derived.Deep.Slices
import Derived.Deep.Fields
import Derived.ChangeSame
namespace Go.Proofs.Ytjchmckbhfoopaa.PP
open Go.ChangeShapes Go.WideShapes Go.Deep Go.RowKit Go.Proofs.YtjchmckbhfoopaaW.PrintWords
set_option linter.unusedVariables false
set_option linter.unusedSimpArgs false
section
variable {H : Type} {enc : TypeId × Value → H} {P : Program} {w : World} {base : Nat} {spare : Nat → Bool} {held : Bool}
/-- The cells of a slice of structs that came in, each field of one cell. -/
theorem xopen_slice_fields {t e : TypeId} {fs : Array Field} {fuel : Nat} {cs : List Value} {x : DataW H × List MemPlace} (ht : P.underlying t = some (.slice e)) (he : P.underlying e = some (.struct fs))
    (hone : oneCellFields P fs = true) (hC : P.cellsOf e = fs.size) (h : DataW.trod enc P w base spare held fuel t cs = some x) :
    cs = [.slice none 0 0] ∨
    ∃ (a : Addr) (len cap : Nat), cs = [.slice (some a) len cap] ∧ len ≤ cap ∧ cap ≤ maxLen ∧
      ∀ i, i < len → ∀ (j : Nat) (f : Field), fs[j]? = some f → ∃ (n : Nat) (v : Value) (y : DataW H × List MemPlace), w.cell? (a.add (i * fs.size + j)) = some v ∧ DataW.trod enc P w base spare held n f.type [v] = some y := by
  rcases open_slice ht h with h0 | ⟨a, len, cap, m, n, D, Pl, hcs, hb, hl, hm, hmm, hx, hi⟩
  · exact .inl h0.1
  · have hlm : len ≤ m := by rw [hmm]; split <;> omega
    refine .inr ⟨a, len, cap, hcs, hl, hm, fun i hil => ?_⟩
    obtain ⟨cs', hc, ht'⟩ := hi i (by omega)
    rw [hC] at hc
    obtain ⟨ys, n', hn', hy, hlen, hyl, hf⟩ := DataW.trod_struct he ht'
    obtain ⟨_, hcl, hat⟩ := World.cells?_some hc
    intro j f hj
    obtain ⟨ho, hk⟩ := hone_of hone j f hj
    have hjl : j < fs.size := (Array.getElem?_eq_some_iff.1 hj).1
    have hcell := hat j hjl
    have hv : cs'[j]? = some (cs'[j]'(by omega)) := List.getElem?_eq_getElem (by omega)
    have h1 := hf j f hj
    rw [ho, hk] at h1
    have hone' : (cs'.drop j).take 1 = [cs'[j]'(by omega)] := by
      rw [List.drop_eq_getElem_cons (by omega)]
      rfl
    rw [hone'] at h1
    have hys : ys[j]? = some (ys[j]'(by omega)) := List.getElem?_eq_getElem (by omega)
    refine ⟨_, _, _, ?_, h1.trans hys⟩
    rw [← Go.Deep.add_add, hcell, hv]
end
/-- The number in a cell. -/
def cellInt (W : World) (a : Addr) : Int := match W.cell? a with
  | some (.int _ z) => z
  | _ => 0
theorem cellInt_of {W : World} {a : Addr} {k : IntKind} {z : Int} (h : W.cell? a = some (.int k z)) : cellInt W a = z := by simp [cellInt, h]
section
variable {H : Type} {enc : TypeId × Value → H} {w : World} {base : Nat} {spare : Nat → Bool} {held : Bool}
theorem int_cell {n : Nat} {v : Value} {y : DataW H × List MemPlace} {a : Addr} (h : DataW.trod enc Try.prog w base spare held n 3 [v] = some y) (hc : w.cell? a = some v) : w.cell? a = some (.int .i64 (cellInt w a)) := by
  have hh := DataW.trod_int (k := .i64) Try.underlying3 h
  obtain ⟨z, e, _⟩ := hh
  simp at e
  subst e
  rw [cellInt_of hc]; exact hc
theorem open_S32 {a : Option Addr} {len cap : Nat} {d : DataW H} {p : List MemPlace} (h : DataW.Trod enc Try.prog w base spare held 23 (.slice a len cap) d p) :
    ∃ xs : List S32, Kd.C k32 w a xs.length xs ∧ xs.length = len ∧ xs.length ≤ cap := by
  obtain ⟨fuel, hf⟩ := h
  rcases xopen_slice_fields Try.underlying23 Try.underlying32 (by kernel_rfl) (by kernel_rfl) hf with hcs | ⟨x, l, c, hcs, hl, hm, hi⟩
  · simp [Value.cells] at hcs
    obtain ⟨rfl, rfl, rfl⟩ := hcs
    exact ⟨[], ⟨rfl, by simp, fun h => absurd h (by simp)⟩, rfl, by simp⟩
  · simp [Value.cells] at hcs
    obtain ⟨rfl, rfl, rfl⟩ := hcs
    refine ⟨(List.range len).map (fun i => ⟨cellInt w (x.add (i * 2 + 0)), cellInt w (x.add (i * 2 + 1))⟩), ?_, by simp, by simpa using hl⟩
    refine ⟨rfl, by unfold maxLen at hm; simp; omega, fun _ => ⟨x, rfl, fun j p hj => ?_⟩⟩
    have hjl : j < len := by
      have := (List.getElem?_eq_some_iff.1 hj).1
      simpa using this
    obtain rfl : p = ⟨cellInt w (x.add (j * 2 + 0)), cellInt w (x.add (j * 2 + 1))⟩ := by
      simp [List.getElem?_map, List.getElem?_range, hjl] at hj
      exact hj.symm
    have c0 : w.cell? (x.add (j * 2 + 0)) = some (.int .i64 (cellInt w (x.add (j * 2 + 0)))) := by
      obtain ⟨n, v, y, hc, ht⟩ := hi j hjl 0 _ rfl
      exact int_cell ht hc
    have c1 : w.cell? (x.add (j * 2 + 1)) = some (.int .i64 (cellInt w (x.add (j * 2 + 1)))) := by
      obtain ⟨n, v, y, hc, ht⟩ := hi j hjl 1 _ rfl
      exact int_cell ht hc
    refine ⟨[_, _], rfl, k32_mk w _, fun i u hu => ?_⟩
    match i with
    | 0 => simp only [List.getElem?_cons_zero, Option.some.injEq] at hu; rw [← hu]; exact c0
    | 1 => simp only [List.getElem?_cons_succ, List.getElem?_cons_zero, Option.some.injEq] at hu; rw [← hu]; exact c1
    | i + 2 => simp at hu
theorem open_S30 {a : Option Addr} {len cap : Nat} {d : DataW H} {p : List MemPlace} (h : DataW.Trod enc Try.prog w base spare held 22 (.slice a len cap) d p) :
    ∃ xs : List S30, Kd.C k30 w a xs.length xs ∧ xs.length = len ∧ xs.length ≤ cap := by
  obtain ⟨fuel, hf⟩ := h
  rcases xopen_slice_fields Try.underlying22 Try.underlying30 (by kernel_rfl) (by kernel_rfl) hf with hcs | ⟨x, l, c, hcs, hl, hm, hi⟩
  · simp [Value.cells] at hcs
    obtain ⟨rfl, rfl, rfl⟩ := hcs
    exact ⟨[], ⟨rfl, by simp, fun h => absurd h (by simp)⟩, rfl, by simp⟩
  · simp [Value.cells] at hcs
    obtain ⟨rfl, rfl, rfl⟩ := hcs
    refine ⟨(List.range len).map (fun i => ⟨cellInt w (x.add (i * 3 + 0)), cellInt w (x.add (i * 3 + 1)), cellInt w (x.add (i * 3 + 2))⟩), ?_, by simp, by simpa using hl⟩
    refine ⟨rfl, by unfold maxLen at hm; simp; omega, fun _ => ⟨x, rfl, fun j p hj => ?_⟩⟩
    have hjl : j < len := by
      have := (List.getElem?_eq_some_iff.1 hj).1
      simpa using this
    obtain rfl : p = ⟨cellInt w (x.add (j * 3 + 0)), cellInt w (x.add (j * 3 + 1)), cellInt w (x.add (j * 3 + 2))⟩ := by
      simp [List.getElem?_map, List.getElem?_range, hjl] at hj
      exact hj.symm
    have c0 : w.cell? (x.add (j * 3 + 0)) = some (.int .i64 (cellInt w (x.add (j * 3 + 0)))) := by
      obtain ⟨n, v, y, hc, ht⟩ := hi j hjl 0 _ rfl
      exact int_cell ht hc
    have c1 : w.cell? (x.add (j * 3 + 1)) = some (.int .i64 (cellInt w (x.add (j * 3 + 1)))) := by
      obtain ⟨n, v, y, hc, ht⟩ := hi j hjl 1 _ rfl
      exact int_cell ht hc
    have c2 : w.cell? (x.add (j * 3 + 2)) = some (.int .i64 (cellInt w (x.add (j * 3 + 2)))) := by
      obtain ⟨n, v, y, hc, ht⟩ := hi j hjl 2 _ rfl
      exact int_cell ht hc
    refine ⟨[_, _, _], rfl, k30_mk w _, fun i u hu => ?_⟩
    match i with
    | 0 => simp only [List.getElem?_cons_zero, Option.some.injEq] at hu; rw [← hu]; exact c0
    | 1 => simp only [List.getElem?_cons_succ, List.getElem?_cons_zero, Option.some.injEq] at hu; rw [← hu]; exact c1
    | 2 => simp only [List.getElem?_cons_succ, List.getElem?_cons_zero, Option.some.injEq] at hu; rw [← hu]; exact c2
    | i + 3 => simp at hu
theorem open_S59 {a : Option Addr} {len cap : Nat} {d : DataW H} {p : List MemPlace} (h : DataW.Trod enc Try.prog w base spare held 42 (.slice a len cap) d p) :
    ∃ xs : List S59, Kd.C k59 w a xs.length xs ∧ xs.length = len ∧ xs.length ≤ cap := by
  obtain ⟨fuel, hf⟩ := h
  rcases xopen_slice_fields Try.underlying42 Try.underlying59 (by kernel_rfl) (by kernel_rfl) hf with hcs | ⟨x, l, c, hcs, hl, hm, hi⟩
  · simp [Value.cells] at hcs
    obtain ⟨rfl, rfl, rfl⟩ := hcs
    exact ⟨[], ⟨rfl, by simp, fun h => absurd h (by simp)⟩, rfl, by simp⟩
  · simp [Value.cells] at hcs
    obtain ⟨rfl, rfl, rfl⟩ := hcs
    refine ⟨(List.range len).map (fun i => ⟨cellInt w (x.add (i * 5 + 0)), cellInt w (x.add (i * 5 + 1)), cellInt w (x.add (i * 5 + 2)), cellInt w (x.add (i * 5 + 3)), cellInt w (x.add (i * 5 + 4))⟩), ?_, by simp, by simpa using hl⟩
    refine ⟨rfl, by unfold maxLen at hm; simp; omega, fun _ => ⟨x, rfl, fun j p hj => ?_⟩⟩
    have hjl : j < len := by
      have := (List.getElem?_eq_some_iff.1 hj).1
      simpa using this
    obtain rfl : p = ⟨cellInt w (x.add (j * 5 + 0)), cellInt w (x.add (j * 5 + 1)), cellInt w (x.add (j * 5 + 2)), cellInt w (x.add (j * 5 + 3)), cellInt w (x.add (j * 5 + 4))⟩ := by
      simp [List.getElem?_map, List.getElem?_range, hjl] at hj
      exact hj.symm
    have c0 : w.cell? (x.add (j * 5 + 0)) = some (.int .i64 (cellInt w (x.add (j * 5 + 0)))) := by
      obtain ⟨n, v, y, hc, ht⟩ := hi j hjl 0 _ rfl
      exact int_cell ht hc
    have c1 : w.cell? (x.add (j * 5 + 1)) = some (.int .i64 (cellInt w (x.add (j * 5 + 1)))) := by
      obtain ⟨n, v, y, hc, ht⟩ := hi j hjl 1 _ rfl
      exact int_cell ht hc
    have c2 : w.cell? (x.add (j * 5 + 2)) = some (.int .i64 (cellInt w (x.add (j * 5 + 2)))) := by
      obtain ⟨n, v, y, hc, ht⟩ := hi j hjl 2 _ rfl
      exact int_cell ht hc
    have c3 : w.cell? (x.add (j * 5 + 3)) = some (.int .i64 (cellInt w (x.add (j * 5 + 3)))) := by
      obtain ⟨n, v, y, hc, ht⟩ := hi j hjl 3 _ rfl
      exact int_cell ht hc
    have c4 : w.cell? (x.add (j * 5 + 4)) = some (.int .i64 (cellInt w (x.add (j * 5 + 4)))) := by
      obtain ⟨n, v, y, hc, ht⟩ := hi j hjl 4 _ rfl
      exact int_cell ht hc
    refine ⟨[_, _, _, _, _], rfl, k59_mk w _, fun i u hu => ?_⟩
    match i with
    | 0 => simp only [List.getElem?_cons_zero, Option.some.injEq] at hu; rw [← hu]; exact c0
    | 1 => simp only [List.getElem?_cons_succ, List.getElem?_cons_zero, Option.some.injEq] at hu; rw [← hu]; exact c1
    | 2 => simp only [List.getElem?_cons_succ, List.getElem?_cons_zero, Option.some.injEq] at hu; rw [← hu]; exact c2
    | 3 => simp only [List.getElem?_cons_succ, List.getElem?_cons_zero, Option.some.injEq] at hu; rw [← hu]; exact c3
    | 4 => simp only [List.getElem?_cons_succ, List.getElem?_cons_zero, Option.some.injEq] at hu; rw [← hu]; exact c4
    | i + 5 => simp at hu
end
end Go.Proofs.Ytjchmckbhfoopaa.PP
