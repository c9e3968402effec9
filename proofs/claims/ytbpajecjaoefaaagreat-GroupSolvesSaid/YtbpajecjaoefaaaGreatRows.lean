/-
  No cell of these rows narrows 'for every input' (looked for: loops, veiled, ifaces, maps, wideKeys, modest, calm, conditions, laid).
  DERIVED. THE GIVEN ROWS OF THIS SEAT. 6 by the template 'for every input the law returns true; each argument reads behind the call as it read before'; 0 by the template 'total and deterministic' (their statements: YtbpajecjaoefaaaGreatTotals.lean).
  GIVEN WITH THE SEED: the statements are not yours to turn. If you find one false, say at which input.
  Laid BY PROGRAM, IN A SANDBOX (cutbox-rows.mjs): the forced cells as the released guide's own fill.sh prints them over the translation c7440863cbe56e52… (all of the seat's roots in one cut). By AI agents, Wed Nov 11 2026. No macro, syntax, notation, axiom, sorry.
-/
import Derived.Test.YtbpajecjaoefaaaGreatChecked
import GoSem.Claim
import GoSem.ClaimJoined
import GoSem.ClaimMapViews
import Derived.JoinedTies
import Derived.KernelRfl
namespace Go.Proofs.YtbpajecjaoefaaaGreat
/- THE CELL 'sum', in the pinned program and in every row, IS THE sha256 OF THE DUMP (.gsa) THAT YtbpajecjaoefaaaGreatProg.lean LOADS. Nothing in Lean hashes anything: it is a label: what it is worth is what the hold of that sum in a sandbox is worth. -/
noncomputable def Tryz.pinned : Pinned := { name := "ytbpajecjaoefaaagreat", sum := "c7440863cbe56e523ab36aac19ecbdc1e919dbd0e397f78291b78d129ddc48c7", checked := Tryz.checked }
namespace Rows
def none {H : Type} : Left H := { results := [], args := [] }

/-- 'semigrouplaw16.GroupSolves': WHATEVER THE INPUT: true; the input reads as it did. -/
def groupSolvesSpec : ChangeSpec := { name := "groupSolves", fn := fun _ => fun
  | [d] => { results := [.lit (.bool true)], args := [d] }
  | _ => none }
def groupSolvesRow : OpenClaim := { program := "ytbpajecjaoefaaagreat", sum := "c7440863cbe56e523ab36aac19ecbdc1e919dbd0e397f78291b78d129ddc48c7", func := "semigroup/semigrouplaw16.GroupSolves", spec := "groupSolves", inPlace := ["internal/reflectlite.ValueOf", "internal/reflectlite.Swapper", "(internal/reflectlite.Value).Len"], unfollowed := true, recurses := true, apart := false }
def GroupSolvesSaid : Prop := groupSolvesRow.holds Tryz.pinned (OpenSpec.ofChange groupSolvesSpec)

/-- ITS FALSE NEIGHBOUR: 'it returns false'. Refute it at one input. -/
def groupSolvesWrong : ChangeSpec := { name := "groupSolves", fn := fun _ => fun
  | [d] => { results := [.lit (.bool false)], args := [d] }
  | _ => none }
def GroupSolvesWrongFalsely : Prop := groupSolvesRow.holds Tryz.pinned (OpenSpec.ofChange groupSolvesWrong)

/-- 'semigrouplaw16.GroupClosures': WHATEVER THE INPUT: true; the input reads as it did. -/
def groupClosuresSpec : ChangeSpec := { name := "groupClosures", fn := fun _ => fun
  | [d1, d2] => { results := [.lit (.bool true)], args := [d1, d2] }
  | _ => none }
def groupClosuresRow : OpenClaim := { program := "ytbpajecjaoefaaagreat", sum := "c7440863cbe56e523ab36aac19ecbdc1e919dbd0e397f78291b78d129ddc48c7", func := "semigroup/semigrouplaw16.GroupClosures", spec := "groupClosures", inPlace := ["internal/reflectlite.ValueOf", "internal/reflectlite.Swapper", "(internal/reflectlite.Value).Len"], unfollowed := true, recurses := true, apart := false }
def GroupClosuresSaid : Prop := groupClosuresRow.holds Tryz.pinned (OpenSpec.ofChange groupClosuresSpec)

/-- ITS FALSE NEIGHBOUR: 'it returns false'. Refute it at one input. -/
def groupClosuresWrong : ChangeSpec := { name := "groupClosures", fn := fun _ => fun
  | [d1, d2] => { results := [.lit (.bool false)], args := [d1, d2] }
  | _ => none }
def GroupClosuresWrongFalsely : Prop := groupClosuresRow.holds Tryz.pinned (OpenSpec.ofChange groupClosuresWrong)

/-- 'semigrouplaw16.GroupNormals': WHATEVER THE INPUT: true; the input reads as it did. -/
def groupNormalsSpec : ChangeSpec := { name := "groupNormals", fn := fun _ => fun
  | [d] => { results := [.lit (.bool true)], args := [d] }
  | _ => none }
def groupNormalsRow : OpenClaim := { program := "ytbpajecjaoefaaagreat", sum := "c7440863cbe56e523ab36aac19ecbdc1e919dbd0e397f78291b78d129ddc48c7", func := "semigroup/semigrouplaw16.GroupNormals", spec := "groupNormals", inPlace := ["internal/reflectlite.ValueOf", "internal/reflectlite.Swapper", "(internal/reflectlite.Value).Len"], unfollowed := true, recurses := true, apart := false }
def GroupNormalsSaid : Prop := groupNormalsRow.holds Tryz.pinned (OpenSpec.ofChange groupNormalsSpec)

/-- ITS FALSE NEIGHBOUR: 'it returns false'. Refute it at one input. -/
def groupNormalsWrong : ChangeSpec := { name := "groupNormals", fn := fun _ => fun
  | [d] => { results := [.lit (.bool false)], args := [d] }
  | _ => none }
def GroupNormalsWrongFalsely : Prop := groupNormalsRow.holds Tryz.pinned (OpenSpec.ofChange groupNormalsWrong)

/-- 'semigrouplaw16.GroupSubgroups': WHATEVER THE INPUT: true; the input reads as it did. -/
def groupSubgroupsSpec : ChangeSpec := { name := "groupSubgroups", fn := fun _ => fun
  | [d1, d2] => { results := [.lit (.bool true)], args := [d1, d2] }
  | _ => none }
def groupSubgroupsRow : OpenClaim := { program := "ytbpajecjaoefaaagreat", sum := "c7440863cbe56e523ab36aac19ecbdc1e919dbd0e397f78291b78d129ddc48c7", func := "semigroup/semigrouplaw16.GroupSubgroups", spec := "groupSubgroups", inPlace := ["internal/reflectlite.ValueOf", "internal/reflectlite.Swapper", "(internal/reflectlite.Value).Len"], unfollowed := true, recurses := true, apart := false }
def GroupSubgroupsSaid : Prop := groupSubgroupsRow.holds Tryz.pinned (OpenSpec.ofChange groupSubgroupsSpec)

/-- ITS FALSE NEIGHBOUR: 'it returns false'. Refute it at one input. -/
def groupSubgroupsWrong : ChangeSpec := { name := "groupSubgroups", fn := fun _ => fun
  | [d1, d2] => { results := [.lit (.bool false)], args := [d1, d2] }
  | _ => none }
def GroupSubgroupsWrongFalsely : Prop := groupSubgroupsRow.holds Tryz.pinned (OpenSpec.ofChange groupSubgroupsWrong)

/-- 'semigrouplaw16.GroupQuotients': WHATEVER THE INPUT: true; the input reads as it did. -/
def groupQuotientsSpec : ChangeSpec := { name := "groupQuotients", fn := fun _ => fun
  | [d1, d2] => { results := [.lit (.bool true)], args := [d1, d2] }
  | _ => none }
def groupQuotientsRow : OpenClaim := { program := "ytbpajecjaoefaaagreat", sum := "c7440863cbe56e523ab36aac19ecbdc1e919dbd0e397f78291b78d129ddc48c7", func := "semigroup/semigrouplaw16.GroupQuotients", spec := "groupQuotients", inPlace := ["internal/reflectlite.ValueOf", "internal/reflectlite.Swapper", "(internal/reflectlite.Value).Len"], unfollowed := true, recurses := true, apart := false }
def GroupQuotientsSaid : Prop := groupQuotientsRow.holds Tryz.pinned (OpenSpec.ofChange groupQuotientsSpec)

/-- ITS FALSE NEIGHBOUR: 'it returns false'. Refute it at one input. -/
def groupQuotientsWrong : ChangeSpec := { name := "groupQuotients", fn := fun _ => fun
  | [d1, d2] => { results := [.lit (.bool false)], args := [d1, d2] }
  | _ => none }
def GroupQuotientsWrongFalsely : Prop := groupQuotientsRow.holds Tryz.pinned (OpenSpec.ofChange groupQuotientsWrong)

/-- 'semigrouplaw16.GroupSeries': WHATEVER THE INPUT: true; the input reads as it did. -/
def groupSeriesSpec : ChangeSpec := { name := "groupSeries", fn := fun _ => fun
  | [d1, d2] => { results := [.lit (.bool true)], args := [d1, d2] }
  | _ => none }
def groupSeriesRow : OpenClaim := { program := "ytbpajecjaoefaaagreat", sum := "c7440863cbe56e523ab36aac19ecbdc1e919dbd0e397f78291b78d129ddc48c7", func := "semigroup/semigrouplaw16.GroupSeries", spec := "groupSeries", inPlace := ["internal/reflectlite.ValueOf", "internal/reflectlite.Swapper", "(internal/reflectlite.Value).Len"], unfollowed := true, recurses := true, apart := false }
def GroupSeriesSaid : Prop := groupSeriesRow.holds Tryz.pinned (OpenSpec.ofChange groupSeriesSpec)

/-- ITS FALSE NEIGHBOUR: 'it returns false'. Refute it at one input. -/
def groupSeriesWrong : ChangeSpec := { name := "groupSeries", fn := fun _ => fun
  | [d1, d2] => { results := [.lit (.bool false)], args := [d1, d2] }
  | _ => none }
def GroupSeriesWrongFalsely : Prop := groupSeriesRow.holds Tryz.pinned (OpenSpec.ofChange groupSeriesWrong)

/- THE SECOND FORM. 'bulk': how many values and letters a reading holds, each counted each time it is reached (what is shared counts as often as it is met; a slice's spare places count too). A statement '..UptoSaid' is the law's where the arguments, and the package variables that the reading takes, are together of bulk at most 1048576: NARROWER than '..Said'. Prove '..Said' where nothing that the law and all that it calls make is longer than what came in: it says more and counts as full. Else prove '..UptoSaid'. A law counts once. -/
mutual
def uptoBulk {H : Type} : DataW H → Nat
  | .lit (.string bytes) => bytes.length + 1
  | .lit _ => 1
  | .nil => 1
  | .ptr d => uptoBulk d + 1
  | .slice elems spare => uptoBulkAll elems + uptoBulkAll spare + 1
  | .agg parts => uptoBulkAll parts + 1
  | .iface _ d => uptoBulk d + 1
  | .map entries => uptoBulkEntries entries + 1
  | .held _ => 1
def uptoBulkAll {H : Type} : List (DataW H) → Nat
  | [] => 0
  | d :: r => uptoBulk d + uptoBulkAll r
def uptoBulkEntries {H : Type} : List (Lit × DataW H) → Nat
  | [] => 0
  | x :: r => uptoBulkEntry x + uptoBulkEntries r
def uptoBulkEntry {H : Type} : Lit × DataW H → Nat
  | (.string bytes, d) => bytes.length + uptoBulk d + 1
  | (_, d) => uptoBulk d + 1
 end
def uptoSmall : (H : Type) → List (DataW H) → Bool := fun _ ds => decide (uptoBulkAll ds ≤ 1048576)
def OpenSpec.upto (s : _root_.Go.ChangeSpec) : _root_.Go.OpenSpec := { _root_.Go.OpenSpec.ofChange s with cond := some uptoSmall }

/-- 'semigrouplaw16.GroupSolves', WHERE WHAT IT READS IS OF BULK AT MOST 1048576: true; the input reads as it did. -/
def groupSolvesUptoRow : OpenClaim := { program := "ytbpajecjaoefaaagreat", sum := "c7440863cbe56e523ab36aac19ecbdc1e919dbd0e397f78291b78d129ddc48c7", func := "semigroup/semigrouplaw16.GroupSolves", spec := "groupSolves", inPlace := ["internal/reflectlite.ValueOf", "internal/reflectlite.Swapper", "(internal/reflectlite.Value).Len"], unfollowed := true, recurses := true, apart := false, narrowed := true }
def GroupSolvesUptoSaid : Prop := groupSolvesUptoRow.holds Tryz.pinned (OpenSpec.upto groupSolvesSpec)

/-- 'semigrouplaw16.GroupClosures', WHERE WHAT IT READS IS OF BULK AT MOST 1048576: true; the input reads as it did. -/
def groupClosuresUptoRow : OpenClaim := { program := "ytbpajecjaoefaaagreat", sum := "c7440863cbe56e523ab36aac19ecbdc1e919dbd0e397f78291b78d129ddc48c7", func := "semigroup/semigrouplaw16.GroupClosures", spec := "groupClosures", inPlace := ["internal/reflectlite.ValueOf", "internal/reflectlite.Swapper", "(internal/reflectlite.Value).Len"], unfollowed := true, recurses := true, apart := false, narrowed := true }
def GroupClosuresUptoSaid : Prop := groupClosuresUptoRow.holds Tryz.pinned (OpenSpec.upto groupClosuresSpec)

/-- 'semigrouplaw16.GroupNormals', WHERE WHAT IT READS IS OF BULK AT MOST 1048576: true; the input reads as it did. -/
def groupNormalsUptoRow : OpenClaim := { program := "ytbpajecjaoefaaagreat", sum := "c7440863cbe56e523ab36aac19ecbdc1e919dbd0e397f78291b78d129ddc48c7", func := "semigroup/semigrouplaw16.GroupNormals", spec := "groupNormals", inPlace := ["internal/reflectlite.ValueOf", "internal/reflectlite.Swapper", "(internal/reflectlite.Value).Len"], unfollowed := true, recurses := true, apart := false, narrowed := true }
def GroupNormalsUptoSaid : Prop := groupNormalsUptoRow.holds Tryz.pinned (OpenSpec.upto groupNormalsSpec)

/-- 'semigrouplaw16.GroupSubgroups', WHERE WHAT IT READS IS OF BULK AT MOST 1048576: true; the input reads as it did. -/
def groupSubgroupsUptoRow : OpenClaim := { program := "ytbpajecjaoefaaagreat", sum := "c7440863cbe56e523ab36aac19ecbdc1e919dbd0e397f78291b78d129ddc48c7", func := "semigroup/semigrouplaw16.GroupSubgroups", spec := "groupSubgroups", inPlace := ["internal/reflectlite.ValueOf", "internal/reflectlite.Swapper", "(internal/reflectlite.Value).Len"], unfollowed := true, recurses := true, apart := false, narrowed := true }
def GroupSubgroupsUptoSaid : Prop := groupSubgroupsUptoRow.holds Tryz.pinned (OpenSpec.upto groupSubgroupsSpec)

/-- 'semigrouplaw16.GroupQuotients', WHERE WHAT IT READS IS OF BULK AT MOST 1048576: true; the input reads as it did. -/
def groupQuotientsUptoRow : OpenClaim := { program := "ytbpajecjaoefaaagreat", sum := "c7440863cbe56e523ab36aac19ecbdc1e919dbd0e397f78291b78d129ddc48c7", func := "semigroup/semigrouplaw16.GroupQuotients", spec := "groupQuotients", inPlace := ["internal/reflectlite.ValueOf", "internal/reflectlite.Swapper", "(internal/reflectlite.Value).Len"], unfollowed := true, recurses := true, apart := false, narrowed := true }
def GroupQuotientsUptoSaid : Prop := groupQuotientsUptoRow.holds Tryz.pinned (OpenSpec.upto groupQuotientsSpec)

/-- 'semigrouplaw16.GroupSeries', WHERE WHAT IT READS IS OF BULK AT MOST 1048576: true; the input reads as it did. -/
def groupSeriesUptoRow : OpenClaim := { program := "ytbpajecjaoefaaagreat", sum := "c7440863cbe56e523ab36aac19ecbdc1e919dbd0e397f78291b78d129ddc48c7", func := "semigroup/semigrouplaw16.GroupSeries", spec := "groupSeries", inPlace := ["internal/reflectlite.ValueOf", "internal/reflectlite.Swapper", "(internal/reflectlite.Value).Len"], unfollowed := true, recurses := true, apart := false, narrowed := true }
def GroupSeriesUptoSaid : Prop := groupSeriesUptoRow.holds Tryz.pinned (OpenSpec.upto groupSeriesSpec)

end Rows
end Go.Proofs.YtbpajecjaoefaaaGreat
