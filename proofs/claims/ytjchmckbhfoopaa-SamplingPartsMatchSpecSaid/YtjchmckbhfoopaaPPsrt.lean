/- slices.SortFunc at the call's own row of api.Near, by the shelf. Conditions: the keys lie below 64 and no two elements bear one key. -/
import Derived.Test.YtjchmckbhfoopaaPProw
import Derived.Test.YtjchmckbhfoopaaPPsort
import Derived.Shelf.SlSortCmp.NoneTotal
namespace Go.Proofs.Ytjchmckbhfoopaa.PP
open Go.RowKit Go.Proofs.YtjchmckbhfoopaaW.PrintWords Go.Proofs.YtjchmckbhfoopaaW.PrintLast Go.Proofs.YtjchmckbhfoopaaW.PrintMore
set_option linter.unusedVariables false
set_option linter.unusedSimpArgs false
abbrev K53 := Fin 64 × Fin 64 × Int
def toK (x : S53) : K53 := (⟨x.f0.toNat % 64, Nat.mod_lt _ (by decide)⟩, ⟨x.f1.toNat % 64, Nat.mod_lt _ (by decide)⟩, x.f2)
def ofK (x : K53) : S53 := ⟨(x.1.val : Int), (x.2.1.val : Int), x.2.2⟩
def encK (x : K53) : List Value := [.int .i64 (x.1.val : Int), .int .i64 (x.2.1.val : Int), .int .i64 x.2.2]
def cfK (x y : K53) : Int := keyCmp (x.1.val : Int) (x.2.1.val : Int) (y.1.val : Int) (y.2.1.val : Int)
def Small (l : List S53) : Prop := ∀ x ∈ l, 0 ≤ x.f0 ∧ x.f0 < 64 ∧ 0 ≤ x.f1 ∧ x.f1 < 64
theorem of_to (x : S53) (h : 0 ≤ x.f0 ∧ x.f0 < 64 ∧ 0 ≤ x.f1 ∧ x.f1 < 64) : ofK (toK x) = x := by
  cases x with
  | mk a b c =>
    simp only at h
    simp only [ofK, toK]
    rw [Nat.mod_eq_of_lt (by omega), Nat.mod_eq_of_lt (by omega), Int.toNat_of_nonneg h.1, Int.toNat_of_nonneg h.2.2.1]
theorem encK_of (x : S53) (h : 0 ≤ x.f0 ∧ x.f0 < 64 ∧ 0 ≤ x.f1 ∧ x.f1 < 64) : encK (toK x) = [.int .i64 x.f0, .int .i64 x.f1, .int .i64 x.f2] := by
  have := of_to x h
  have e : ∀ y : K53, encK y = [.int .i64 (ofK y).f0, .int .i64 (ofK y).f1, .int .i64 (ofK y).f2] := fun y => rfl
  rw [e, this]
theorem keyCmp_neg (a b c d : Int) : keyCmp a b c d < 0 ↔ (a < c ∨ a = c ∧ b < d) := by
  unfold keyCmp
  split <;> omega
theorem keyCmp_le (a b c d : Int) : keyCmp a b c d ≤ 0 ↔ (a < c ∨ a = c ∧ b ≤ d) := by
  unfold keyCmp
  split <;> omega
theorem swoK : Go.Sort.SWO (Go.Proofs.ltOf cfK) := by
  refine ⟨fun x => ?_, fun x y z => ?_, fun x y z => ?_⟩ <;> simp only [Go.Proofs.ltOf, cfK, keyCmp_neg, decide_eq_true_eq, decide_eq_false_iff_not] <;> intros <;> omega
def cellsK (l : List K53) : List Value := l.flatMap encK
theorem cells53_map (l : List K53) : cells53 (l.map ofK) = cellsK l := by
  simp only [cells53, cellsK, List.flatMap_map]
  rfl
theorem flat_eq (d : Array K53) : (Go.Sort.flatK encK 3 d).toList = cellsK d.toList := by
  have hl : (cellsK d.toList).length = d.size * 3 := by
    rw [← cells53_map, cells53_length]; simp
  apply List.ext_getElem (by simp [hl])
  intro t h1 h2
  have ht : t < d.size * 3 := by simpa using h1
  have e1 : (Go.Sort.flatK encK 3 d).toList[t] = (Go.Sort.flatK encK 3 d)[t]! := by
    rw [getElem!_pos _ t (by simpa using ht)]; simp
  rw [e1, Go.Sort.get_flatK encK 3 d t ht]
  have hq : t / 3 < d.size := by omega
  have hq' : t / 3 < (d.toList.map ofK).length := by simpa using hq
  have hg := cells53_get (d.toList.map ofK) (t / 3) hq'
  rw [cells53_map] at hg
  have hd : d[t / 3]! = d[t / 3] := getElem!_pos d _ hq
  rw [hd]
  have hx : (d.toList.map ofK)[t / 3] = ofK d[t / 3] := by simp
  rw [hx] at hg
  have hr : t % 3 = 0 ∨ t % 3 = 1 ∨ t % 3 = 2 := by omega
  have key : ∀ v : Value, (cellsK d.toList)[t]? = some v → v = (cellsK d.toList)[t] := fun v hv => by
    rw [List.getElem?_eq_getElem h2] at hv; exact (Option.some.inj hv).symm
  rcases hr with hr | hr | hr
  · have h3 := hg.1
    rw [show t / 3 * 3 = t from by omega] at h3
    rw [hr]; exact key _ h3
  · have h3 := hg.2.1
    rw [show t / 3 * 3 + 1 = t from by omega] at h3
    rw [hr]; exact key _ h3
  · have h3 := hg.2.2
    rw [show t / 3 * 3 + 2 = t from by omega] at h3
    rw [hr]; exact key _ h3
/-! #### the world behind the sort -/
theorem heap_sortedK {w : World} {g n : Nat} {os : Array Obj} {cur : Array Value} {e : TypeId} {fr : Nat × Nat} (d : Array K53) (hb : w.heap[g]? = some (.cells cur e fr)) :
    (Go.Proofs.sortWorldK encK 3 w g 0 n d os).heap[g]? = some (.cells (Go.Sort.putCells id 0 (Go.Sort.flatK encK 3 d) cur) e fr) := by
  have hg : g < w.heap.size := (Array.getElem?_eq_some_iff.1 hb).1
  unfold Go.Proofs.sortWorldK Go.Sort.putRowK
  rw [Go.Sort.heap_grow_old _ _ (by simpa [Go.Sort.putRow, Go.Sort.mapBlock] using hg)]
  simp [Go.Sort.putRow, Go.Sort.mapBlock, Go.Sort.ahead, Array.getElem?_modify, hb, Go.Sort.onCells]
theorem grownBy_sortedK {w : World} {g n : Nat} {os : Array Obj} (d : Array K53) : w.grownBy (Go.Proofs.sortWorldK encK 3 w g 0 n d os) (some g) := by
  unfold Go.Proofs.sortWorldK Go.Sort.putRowK
  refine ⟨rfl, rfl, rfl, by simp [Go.Sort.putRow, Go.Sort.mapBlock], fun k hk hne => ?_⟩
  rw [Go.Sort.heap_grow_old _ _ (by simpa [Go.Sort.putRow, Go.Sort.mapBlock] using hk)]
  have : g ≠ k := fun e => hne (by rw [e])
  simp [Go.Sort.putRow, Go.Sort.mapBlock, Go.Sort.ahead, Array.getElem?_modify, this]
theorem take_putK (cur : Array Value) (d : Array K53) (h : d.size * 3 ≤ cur.size) : (Go.Sort.putCells id 0 (Go.Sort.flatK encK 3 d) cur).toList.take (d.size * 3) = cellsK d.toList := by
  rw [← flat_eq]
  apply List.ext_getElem?
  intro j
  by_cases hj : j < d.size * 3
  · rw [List.getElem?_take_of_lt hj, Array.getElem?_toList, Array.getElem?_toList]
    simp [Go.Sort.putCells, hj, show j < cur.size by omega]
  · rw [List.getElem?_take_eq_none (by omega), List.getElem?_eq_none (by simp; omega)]
theorem sorted_one {l m : List S53} (hp : m.Perm l) (hk : l.Pairwise (fun x y => ¬ (x.f0 = y.f0 ∧ x.f1 = y.f1))) (hs : m.Pairwise (fun x y => ¬ keyCmp y.f0 y.f1 x.f0 x.f1 < 0)) : m = sortNear l := by
  have htr : ∀ a b c : S53, leNear a b = true → leNear b c = true → leNear a c = true := by
    intro a b c; simp only [leNear, decide_eq_true_eq, keyCmp_le]
    omega
  have hto : ∀ a b : S53, (leNear a b || leNear b a) = true := by
    intro a b; simp only [leNear, Bool.or_eq_true, decide_eq_true_eq, keyCmp_le]
    omega
  have h1 : (sortNear l).Pairwise (fun x y => leNear x y = true) := List.pairwise_mergeSort htr hto l
  have h2 : m.Pairwise (fun x y => leNear x y = true) := hs.imp (fun {a b} h => by
    simp only [leNear, decide_eq_true_eq, keyCmp_le, keyCmp_neg] at h ⊢
    omega)
  have hpp : m.Perm (sortNear l) := hp.trans (List.mergeSort_perm l leNear).symm
  have hkey : ∀ x ∈ l, ∀ y ∈ l, x.f0 = y.f0 ∧ x.f1 = y.f1 → x = y := by
    intro x hx y hy e
    obtain ⟨i, hi, rfl⟩ := List.mem_iff_getElem.1 hx
    obtain ⟨j, hj, rfl⟩ := List.mem_iff_getElem.1 hy
    rcases Nat.lt_trichotomy i j with h | h | h
    · exact absurd e (List.pairwise_iff_getElem.1 hk i j hi hj h)
    · subst h; rfl
    · exact absurd ⟨e.1.symm, e.2.symm⟩ (List.pairwise_iff_getElem.1 hk j i hj hi h)
  refine hpp.eq_of_pairwise (le := fun x y => leNear x y = true) (fun a b ha hb h3 h4 => ?_) h2 h1
  refine hkey a (hp.mem_iff.1 ha) b ((List.mergeSort_perm l leNear).mem_iff.1 hb) ?_
  simp only [leNear, decide_eq_true_eq, keyCmp_le] at h3 h4
  omega
set_option maxHeartbeats 1000000 in
theorem sort32 (base : Nat) (W : World) (v : Value) (l : List S53) (hown : W.ownsRow base 53 3 v l.length (cells53 l)) (hb : Small l) (hk : l.Pairwise (fun x y => ¬ (x.f0 = y.f0 ∧ x.f1 = y.f1))) (hl : l.length ≤ 200) :
    Calls Try.prog 32 #[v, .func (.func 33) #[] #[]] W fun e w' => e = .returned (.tuple #[]) ∧ w'.ownsRow base 53 3 v l.length (cells53 (sortNear l)) ∧ W.grownBy w' v.ownBlock := by
  rcases Nat.eq_zero_or_pos l.length with h0 | h0
  · obtain rfl := List.eq_nil_of_length_eq_zero h0
    obtain ⟨A, c, rfl⟩ := own_slice hown
    refine (Go.Proofs.AnyF.slices_SortFunc_none Try.sortL A c _ W).mono ?_
    rintro e w' ⟨rfl, rfl⟩
    refine ⟨rfl, ?_, World.grownBy.refl _ _⟩
    have : sortNear [] = [] := by simp [sortNear]
    rw [this]; exact hown
  · rcases hown.2 with ⟨_, h1⟩ | ⟨g, cap, cur, rfl, hbg, hg, hnc, hcm, hsz, htk⟩
    · omega
    have hlt : g < W.heap.size := (Array.getElem?_eq_some_iff.1 hg).1
    obtain ⟨d, hD⟩ : ∃ d : Array K53, d = (l.map toK).toArray := ⟨_, rfl⟩
    have hds : d.size = l.length := by rw [hD]; simp
    have hdl : d.toList = l.map toK := by rw [hD]
    have hcell : cellsK d.toList = cells53 l := by
      rw [hdl, ← cells53_map, List.map_map]
      congr 1
      exact (List.map_congr_left (fun x hx => of_to x (hb x hx))).trans (List.map_id _)
    have hH : Go.Sort.HoldsK encK 3 W g 0 d := by
      intro j hj
      have hj' : j < l.length * 3 := by rw [Go.Sort.size_flatK, hds] at hj; exact hj
      refine ⟨?_, by simp [World.frozen?, hg]⟩
      have e1 : (Go.Sort.flatK encK 3 d)[j]! = (Go.Sort.flatK encK 3 d).toList[j]'(by simpa using hj) := by
        rw [getElem!_pos _ j hj]; simp
      have e2 : cur.toList[j]? = (cells53 l)[j]? := by rw [← htk, List.getElem?_take_of_lt hj']
      rw [e1]
      have e3 : (cells53 l)[j]? = some ((Go.Sort.flatK encK 3 d).toList[j]'(by simpa using hj)) := by
        rw [← hcell, ← flat_eq, List.getElem?_eq_getElem]
      simp only [World.cell?, hg, Nat.zero_add, Option.isSome_none, Bool.false_eq_true, if_false]
      rw [← Array.getElem?_toList, e2, e3]; rfl
    have hcmp : Go.Proofs.CmpLays Try.prog 33 #[] encK 3 cfK g 0 d.size W := by
      intro m os dk hs x y
      have hx := x.1.isLt; have hx' := x.2.1.isLt; have hy := y.1.isLt; have hy' := y.2.1.isLt
      refine (cmp33 (x.1.val : Int) (x.2.1.val : Int) x.2.2 (y.1.val : Int) (y.2.1.val : Int) y.2.2 _ (by omega) (by omega) (by omega) (by omega) (by omega) (by omega) (by omega) (by omega)).mono ?_
      rintro e w' ⟨rfl, rfl⟩
      refine ⟨rfl, 0, #[.cells (encK x).toArray 53] ++ #[.cells (encK y).toArray 53], ?_⟩
      rw [Go.Sort.alloc_eq_grow, Go.Sort.alloc_eq_grow, Go.Sort.grow_grow]
      rfl
    have h := Go.Proofs.AnyQ.slices_SortFunc (α := K53) Try.sortL 3 (fun w => by kernel_rfl) (fun w => by kernel_rfl) encK (fun _ => rfl) (fun x u hu => by simp [encK] at hu; rcases hu with rfl | rfl | rfl <;> rfl) cfK swoK 33 #[] g 0 cap d W (enters_of Try.func33 (by kernel_rfl) rfl) hcmp hH hlt (by omega)
    rw [hds] at h
    refine h.mono ?_
    rintro e w' ⟨rfl, d', n, os, hp, hs, rfl⟩
    have hd's : d'.size = l.length := hp.1.trans hds
    have hperm : d'.toList.Perm d.toList := by
      have := hp.2.2
      have e1 : d'.extract 0 l.length = d' := by rw [← hd's]; simp
      have e2 : d.extract 0 l.length = d := by rw [← hds]; simp
      rwa [e1, e2] at this
    have hm : d'.toList.map ofK = sortNear l := by
      refine sorted_one ?_ hk ?_
      · have := hperm.map ofK
        rw [hdl, List.map_map] at this
        have e : List.map (ofK ∘ toK) l = l := (List.map_congr_left (fun x hx => of_to x (hb x hx))).trans (List.map_id _)
        rwa [e] at this
      · rw [List.pairwise_map, List.pairwise_iff_getElem]
        intro i j hi hj hij
        have := hs i j (Nat.zero_le _) hij (by simpa [hd's] using hj)
        rw [getElem!_pos d' i (by simpa using hi), getElem!_pos d' j (by simpa using hj)] at this
        have h4 := of_decide_eq_false this
        simpa [ofK, cfK] using h4
    refine ⟨rfl, ⟨by rw [cells53_length, ← hm]; simp [hd's], .inr ⟨g, cap, _, rfl, hbg, heap_sortedK d' hg, hnc, hcm, by simp [Go.Sort.putCells, hsz], ?_⟩⟩, grownBy_sortedK d'⟩
    rw [← hd's, take_putK cur d' (by rw [hd's, hsz]; exact Nat.mul_le_mul_right _ hnc), ← hm, cells53_map]
end Go.Proofs.Ytjchmckbhfoopaa.PP
