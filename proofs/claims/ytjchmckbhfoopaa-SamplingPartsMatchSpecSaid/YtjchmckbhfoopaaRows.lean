/-
  No cell of these rows narrows 'for every input' (looked for: loops, veiled, ifaces, maps, wideKeys, modest, calm, conditions, laid).
  DERIVED. THE GIVEN ROWS OF THIS SEAT. 5 by the template 'for every input the law returns true; each argument reads behind the call as it read before'; 0 by the template 'total and deterministic' (their statements: YtjchmckbhfoopaaTotals.lean).
  GIVEN WITH THE SEED: the statements are not yours to turn. If you find one false, say at which input.
  Laid BY PROGRAM, IN A SANDBOX (cutbox-rows.mjs): the forced cells as the released guide's own fill.sh prints them over the translation 82874ac177c40ebf… (all of the seat's roots in one cut). By AI agents, Wed Nov 11 2026. No macro, syntax, notation, axiom, sorry.
-/
import Derived.Test.YtjchmckbhfoopaaChecked
import GoSem.Claim
import GoSem.ClaimJoined
import GoSem.ClaimMapViews
import Derived.JoinedTies
import Derived.KernelRfl
namespace Go.Proofs.Ytjchmckbhfoopaa
/- THE CELL 'sum', in the pinned program and in every row, IS THE sha256 OF THE DUMP (.gsa) THAT YtjchmckbhfoopaaProg.lean LOADS. Nothing in Lean hashes anything: it is a label: what it is worth is what the hold of that sum in a sandbox is worth. -/
noncomputable def Try.pinned : Pinned := { name := "ytjchmckbhfoopaa", sum := "82874ac177c40ebfcee6c511214338a3ba1d791eeb9316f72e22121b95d2ca33", checked := Try.checked }
namespace Rows
def none {H : Type} : Left H := { results := [], args := [] }

/-- 'linkhouselaw8.SamplingCountsEvents': WHATEVER THE INPUT: true; the input reads as it did. -/
def samplingCountsEventsSpec : ChangeSpec := { name := "samplingCountsEvents", fn := fun _ => fun
  | [d1, d2] => { results := [.lit (.bool true)], args := [d1, d2] }
  | _ => none }
def samplingCountsEventsRow : OpenClaim := { program := "ytjchmckbhfoopaa", sum := "82874ac177c40ebfcee6c511214338a3ba1d791eeb9316f72e22121b95d2ca33", func := "linkhouse/linkhouselaw8.SamplingCountsEvents", spec := "samplingCountsEvents", inPlace := ["slices.overlaps[linkhouse/api.Sample]"], unfollowed := true, recurses := true, apart := false }
def SamplingCountsEventsSaid : Prop := samplingCountsEventsRow.holds Try.pinned (OpenSpec.ofChange samplingCountsEventsSpec)

/-- ITS FALSE NEIGHBOUR: 'it returns false'. Refute it at one input. -/
def samplingCountsEventsWrong : ChangeSpec := { name := "samplingCountsEvents", fn := fun _ => fun
  | [d1, d2] => { results := [.lit (.bool false)], args := [d1, d2] }
  | _ => none }
def SamplingCountsEventsWrongFalsely : Prop := samplingCountsEventsRow.holds Try.pinned (OpenSpec.ofChange samplingCountsEventsWrong)

/-- 'linkhouselaw8.SamplingMatchesSpec': WHATEVER THE INPUT: true; the input reads as it did. -/
def samplingMatchesSpecSpec : ChangeSpec := { name := "samplingMatchesSpec", fn := fun _ => fun
  | [d1, d2, d3, d4] => { results := [.lit (.bool true)], args := [d1, d2, d3, d4] }
  | _ => none }
def samplingMatchesSpecRow : OpenClaim := { program := "ytjchmckbhfoopaa", sum := "82874ac177c40ebfcee6c511214338a3ba1d791eeb9316f72e22121b95d2ca33", func := "linkhouse/linkhouselaw8.SamplingMatchesSpec", spec := "samplingMatchesSpec", inPlace := ["slices.overlaps[linkhouse/api.Sample]"], unfollowed := true, recurses := true, apart := false }
def SamplingMatchesSpecSaid : Prop := samplingMatchesSpecRow.holds Try.pinned (OpenSpec.ofChange samplingMatchesSpecSpec)

/-- ITS FALSE NEIGHBOUR: 'it returns false'. Refute it at one input. -/
def samplingMatchesSpecWrong : ChangeSpec := { name := "samplingMatchesSpec", fn := fun _ => fun
  | [d1, d2, d3, d4] => { results := [.lit (.bool false)], args := [d1, d2, d3, d4] }
  | _ => none }
def SamplingMatchesSpecWrongFalsely : Prop := samplingMatchesSpecRow.holds Try.pinned (OpenSpec.ofChange samplingMatchesSpecWrong)

/-- 'linkhouselaw8.SamplingHalves': WHATEVER THE INPUT: true; the input reads as it did. -/
def samplingHalvesSpec : ChangeSpec := { name := "samplingHalves", fn := fun _ => fun
  | [d1, d2] => { results := [.lit (.bool true)], args := [d1, d2] }
  | _ => none }
def samplingHalvesRow : OpenClaim := { program := "ytjchmckbhfoopaa", sum := "82874ac177c40ebfcee6c511214338a3ba1d791eeb9316f72e22121b95d2ca33", func := "linkhouse/linkhouselaw8.SamplingHalves", spec := "samplingHalves", inPlace := ["slices.overlaps[linkhouse/api.Sample]"], unfollowed := true, recurses := true, apart := false }
def SamplingHalvesSaid : Prop := samplingHalvesRow.holds Try.pinned (OpenSpec.ofChange samplingHalvesSpec)

/-- ITS FALSE NEIGHBOUR: 'it returns false'. Refute it at one input. -/
def samplingHalvesWrong : ChangeSpec := { name := "samplingHalves", fn := fun _ => fun
  | [d1, d2] => { results := [.lit (.bool false)], args := [d1, d2] }
  | _ => none }
def SamplingHalvesWrongFalsely : Prop := samplingHalvesRow.holds Try.pinned (OpenSpec.ofChange samplingHalvesWrong)

/-- 'linkhouselaw8.SamplingMergeIsSymmetric': WHATEVER THE INPUT: true; the input reads as it did. -/
def samplingMergeIsSymmetricSpec : ChangeSpec := { name := "samplingMergeIsSymmetric", fn := fun _ => fun
  | [d1, d2, d3] => { results := [.lit (.bool true)], args := [d1, d2, d3] }
  | _ => none }
def samplingMergeIsSymmetricRow : OpenClaim := { program := "ytjchmckbhfoopaa", sum := "82874ac177c40ebfcee6c511214338a3ba1d791eeb9316f72e22121b95d2ca33", func := "linkhouse/linkhouselaw8.SamplingMergeIsSymmetric", spec := "samplingMergeIsSymmetric", inPlace := ["slices.overlaps[linkhouse/api.Sample]"], unfollowed := true, recurses := true, apart := false }
def SamplingMergeIsSymmetricSaid : Prop := samplingMergeIsSymmetricRow.holds Try.pinned (OpenSpec.ofChange samplingMergeIsSymmetricSpec)

/-- ITS FALSE NEIGHBOUR: 'it returns false'. Refute it at one input. -/
def samplingMergeIsSymmetricWrong : ChangeSpec := { name := "samplingMergeIsSymmetric", fn := fun _ => fun
  | [d1, d2, d3] => { results := [.lit (.bool false)], args := [d1, d2, d3] }
  | _ => none }
def SamplingMergeIsSymmetricWrongFalsely : Prop := samplingMergeIsSymmetricRow.holds Try.pinned (OpenSpec.ofChange samplingMergeIsSymmetricWrong)

/-- 'linkhouselaw8.SamplingPartsMatchSpec': WHATEVER THE INPUT: true; the input reads as it did. -/
def samplingPartsMatchSpecSpec : ChangeSpec := { name := "samplingPartsMatchSpec", fn := fun _ => fun
  | [d1, d2, d3] => { results := [.lit (.bool true)], args := [d1, d2, d3] }
  | _ => none }
def samplingPartsMatchSpecRow : OpenClaim := { program := "ytjchmckbhfoopaa", sum := "82874ac177c40ebfcee6c511214338a3ba1d791eeb9316f72e22121b95d2ca33", func := "linkhouse/linkhouselaw8.SamplingPartsMatchSpec", spec := "samplingPartsMatchSpec", inPlace := ["slices.overlaps[linkhouse/api.Sample]"], unfollowed := true, recurses := true, apart := false }
def SamplingPartsMatchSpecSaid : Prop := samplingPartsMatchSpecRow.holds Try.pinned (OpenSpec.ofChange samplingPartsMatchSpecSpec)

/-- ITS FALSE NEIGHBOUR: 'it returns false'. Refute it at one input. -/
def samplingPartsMatchSpecWrong : ChangeSpec := { name := "samplingPartsMatchSpec", fn := fun _ => fun
  | [d1, d2, d3] => { results := [.lit (.bool false)], args := [d1, d2, d3] }
  | _ => none }
def SamplingPartsMatchSpecWrongFalsely : Prop := samplingPartsMatchSpecRow.holds Try.pinned (OpenSpec.ofChange samplingPartsMatchSpecWrong)

/- THE SECOND FORM. 'bulk': how many values and letters a reading holds, each counted each time it is reached (what is shared counts as often as it is met; a slice's spare places count too). A statement '..UptoSaid' is the law's where the arguments, and the package variables that the reading takes, are together of bulk at most 1048576: NARROWER than '..Said'. Prove '..Said' where nothing that the law and all that it calls make is longer than what came in: it says more and counts as full. Else prove '..UptoSaid'. A law counts once. -/
mutual
def uptoBulk {H : Type} : DataW H → Nat
  | .lit (.string bytes) => bytes.length + 1
  | .lit _ => 1
  | .nil => 1
  | .ptr d => uptoBulk d + 1
  | .slice elems spare => uptoBulkAll elems + uptoBulkAll spare + 1
  | .agg parts => uptoBulkAll parts + 1
  | .iface _ d => uptoBulk d + 1
  | .map entries => uptoBulkEntries entries + 1
  | .held _ => 1
def uptoBulkAll {H : Type} : List (DataW H) → Nat
  | [] => 0
  | d :: r => uptoBulk d + uptoBulkAll r
def uptoBulkEntries {H : Type} : List (Lit × DataW H) → Nat
  | [] => 0
  | x :: r => uptoBulkEntry x + uptoBulkEntries r
def uptoBulkEntry {H : Type} : Lit × DataW H → Nat
  | (.string bytes, d) => bytes.length + uptoBulk d + 1
  | (_, d) => uptoBulk d + 1
 end
def uptoSmall : (H : Type) → List (DataW H) → Bool := fun _ ds => decide (uptoBulkAll ds ≤ 1048576)
def OpenSpec.upto (s : _root_.Go.ChangeSpec) : _root_.Go.OpenSpec := { _root_.Go.OpenSpec.ofChange s with cond := some uptoSmall }

/-- 'linkhouselaw8.SamplingCountsEvents', WHERE WHAT IT READS IS OF BULK AT MOST 1048576: true; the input reads as it did. -/
def samplingCountsEventsUptoRow : OpenClaim := { program := "ytjchmckbhfoopaa", sum := "82874ac177c40ebfcee6c511214338a3ba1d791eeb9316f72e22121b95d2ca33", func := "linkhouse/linkhouselaw8.SamplingCountsEvents", spec := "samplingCountsEvents", inPlace := ["slices.overlaps[linkhouse/api.Sample]"], unfollowed := true, recurses := true, apart := false, narrowed := true }
def SamplingCountsEventsUptoSaid : Prop := samplingCountsEventsUptoRow.holds Try.pinned (OpenSpec.upto samplingCountsEventsSpec)

/-- 'linkhouselaw8.SamplingMatchesSpec', WHERE WHAT IT READS IS OF BULK AT MOST 1048576: true; the input reads as it did. -/
def samplingMatchesSpecUptoRow : OpenClaim := { program := "ytjchmckbhfoopaa", sum := "82874ac177c40ebfcee6c511214338a3ba1d791eeb9316f72e22121b95d2ca33", func := "linkhouse/linkhouselaw8.SamplingMatchesSpec", spec := "samplingMatchesSpec", inPlace := ["slices.overlaps[linkhouse/api.Sample]"], unfollowed := true, recurses := true, apart := false, narrowed := true }
def SamplingMatchesSpecUptoSaid : Prop := samplingMatchesSpecUptoRow.holds Try.pinned (OpenSpec.upto samplingMatchesSpecSpec)

/-- 'linkhouselaw8.SamplingHalves', WHERE WHAT IT READS IS OF BULK AT MOST 1048576: true; the input reads as it did. -/
def samplingHalvesUptoRow : OpenClaim := { program := "ytjchmckbhfoopaa", sum := "82874ac177c40ebfcee6c511214338a3ba1d791eeb9316f72e22121b95d2ca33", func := "linkhouse/linkhouselaw8.SamplingHalves", spec := "samplingHalves", inPlace := ["slices.overlaps[linkhouse/api.Sample]"], unfollowed := true, recurses := true, apart := false, narrowed := true }
def SamplingHalvesUptoSaid : Prop := samplingHalvesUptoRow.holds Try.pinned (OpenSpec.upto samplingHalvesSpec)

/-- 'linkhouselaw8.SamplingMergeIsSymmetric', WHERE WHAT IT READS IS OF BULK AT MOST 1048576: true; the input reads as it did. -/
def samplingMergeIsSymmetricUptoRow : OpenClaim := { program := "ytjchmckbhfoopaa", sum := "82874ac177c40ebfcee6c511214338a3ba1d791eeb9316f72e22121b95d2ca33", func := "linkhouse/linkhouselaw8.SamplingMergeIsSymmetric", spec := "samplingMergeIsSymmetric", inPlace := ["slices.overlaps[linkhouse/api.Sample]"], unfollowed := true, recurses := true, apart := false, narrowed := true }
def SamplingMergeIsSymmetricUptoSaid : Prop := samplingMergeIsSymmetricUptoRow.holds Try.pinned (OpenSpec.upto samplingMergeIsSymmetricSpec)

/-- 'linkhouselaw8.SamplingPartsMatchSpec', WHERE WHAT IT READS IS OF BULK AT MOST 1048576: true; the input reads as it did. -/
def samplingPartsMatchSpecUptoRow : OpenClaim := { program := "ytjchmckbhfoopaa", sum := "82874ac177c40ebfcee6c511214338a3ba1d791eeb9316f72e22121b95d2ca33", func := "linkhouse/linkhouselaw8.SamplingPartsMatchSpec", spec := "samplingPartsMatchSpec", inPlace := ["slices.overlaps[linkhouse/api.Sample]"], unfollowed := true, recurses := true, apart := false, narrowed := true }
def SamplingPartsMatchSpecUptoSaid : Prop := samplingPartsMatchSpecUptoRow.holds Try.pinned (OpenSpec.upto samplingPartsMatchSpecSpec)

end Rows
end Go.Proofs.Ytjchmckbhfoopaa
