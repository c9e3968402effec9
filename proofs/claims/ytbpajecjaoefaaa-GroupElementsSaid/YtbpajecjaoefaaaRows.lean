/-
  No cell of these rows narrows 'for every input' (looked for: loops, veiled, ifaces, maps, wideKeys, modest, calm, conditions, laid).
  DERIVED. THE GIVEN ROWS OF THIS SEAT. 4 by the template 'for every input the law returns true; each argument reads behind the call as it read before'; 0 by the template 'total and deterministic' (their statements: YtbpajecjaoefaaaTotals.lean).
  GIVEN WITH THE SEED: the statements are not yours to turn. If you find one false, say at which input.
  Laid BY PROGRAM, IN A SANDBOX (cutbox-rows.mjs): the forced cells as the released guide's own fill.sh prints them over the translation 58cf7fab792d0cfa… (all of the seat's roots in one cut). By AI agents, Wed Nov 11 2026. No macro, syntax, notation, axiom, sorry.
-/
import Derived.Test.YtbpajecjaoefaaaChecked
import GoSem.Claim
import GoSem.ClaimJoined
import GoSem.ClaimMapViews
import Derived.JoinedTies
import Derived.KernelRfl
namespace Go.Proofs.Ytbpajecjaoefaaa
/- THE CELL 'sum', in the pinned program and in every row, IS THE sha256 OF THE DUMP (.gsa) THAT YtbpajecjaoefaaaProg.lean LOADS. Nothing in Lean hashes anything: it is a label: what it is worth is what the hold of that sum in a sandbox is worth. -/
noncomputable def Try.pinned : Pinned := { name := "ytbpajecjaoefaaa", sum := "58cf7fab792d0cfa00b814cf2ad31b5e191d0c844371c7ca538474231c7b013f", checked := Try.checked }
namespace Rows
def none {H : Type} : Left H := { results := [], args := [] }

/-- 'semigrouplaw16.GroupGenerates': WHATEVER THE INPUT: true; the input reads as it did. -/
def groupGeneratesSpec : ChangeSpec := { name := "groupGenerates", fn := fun _ => fun
  | [d] => { results := [.lit (.bool true)], args := [d] }
  | _ => none }
def groupGeneratesRow : OpenClaim := { program := "ytbpajecjaoefaaa", sum := "58cf7fab792d0cfa00b814cf2ad31b5e191d0c844371c7ca538474231c7b013f", func := "semigroup/semigrouplaw16.GroupGenerates", spec := "groupGenerates", inPlace := ["internal/reflectlite.ValueOf", "internal/reflectlite.Swapper", "(internal/reflectlite.Value).Len"], unfollowed := true, recurses := true, apart := false }
def GroupGeneratesSaid : Prop := groupGeneratesRow.holds Try.pinned (OpenSpec.ofChange groupGeneratesSpec)

/-- ITS FALSE NEIGHBOUR: 'it returns false'. Refute it at one input. -/
def groupGeneratesWrong : ChangeSpec := { name := "groupGenerates", fn := fun _ => fun
  | [d] => { results := [.lit (.bool false)], args := [d] }
  | _ => none }
def GroupGeneratesWrongFalsely : Prop := groupGeneratesRow.holds Try.pinned (OpenSpec.ofChange groupGeneratesWrong)

/-- 'semigrouplaw16.GroupTables': WHATEVER THE INPUT: true; the input reads as it did. -/
def groupTablesSpec : ChangeSpec := { name := "groupTables", fn := fun _ => fun
  | [d] => { results := [.lit (.bool true)], args := [d] }
  | _ => none }
def groupTablesRow : OpenClaim := { program := "ytbpajecjaoefaaa", sum := "58cf7fab792d0cfa00b814cf2ad31b5e191d0c844371c7ca538474231c7b013f", func := "semigroup/semigrouplaw16.GroupTables", spec := "groupTables", inPlace := ["internal/reflectlite.ValueOf", "internal/reflectlite.Swapper", "(internal/reflectlite.Value).Len"], unfollowed := true, recurses := true, apart := false }
def GroupTablesSaid : Prop := groupTablesRow.holds Try.pinned (OpenSpec.ofChange groupTablesSpec)

/-- ITS FALSE NEIGHBOUR: 'it returns false'. Refute it at one input. -/
def groupTablesWrong : ChangeSpec := { name := "groupTables", fn := fun _ => fun
  | [d] => { results := [.lit (.bool false)], args := [d] }
  | _ => none }
def GroupTablesWrongFalsely : Prop := groupTablesRow.holds Try.pinned (OpenSpec.ofChange groupTablesWrong)

/-- 'semigrouplaw16.GroupElements': WHATEVER THE INPUT: true; the input reads as it did. -/
def groupElementsSpec : ChangeSpec := { name := "groupElements", fn := fun _ => fun
  | [d1, d2] => { results := [.lit (.bool true)], args := [d1, d2] }
  | _ => none }
def groupElementsRow : OpenClaim := { program := "ytbpajecjaoefaaa", sum := "58cf7fab792d0cfa00b814cf2ad31b5e191d0c844371c7ca538474231c7b013f", func := "semigroup/semigrouplaw16.GroupElements", spec := "groupElements", inPlace := ["internal/reflectlite.ValueOf", "internal/reflectlite.Swapper", "(internal/reflectlite.Value).Len"], unfollowed := true, recurses := true, apart := false }
def GroupElementsSaid : Prop := groupElementsRow.holds Try.pinned (OpenSpec.ofChange groupElementsSpec)

/-- ITS FALSE NEIGHBOUR: 'it returns false'. Refute it at one input. -/
def groupElementsWrong : ChangeSpec := { name := "groupElements", fn := fun _ => fun
  | [d1, d2] => { results := [.lit (.bool false)], args := [d1, d2] }
  | _ => none }
def GroupElementsWrongFalsely : Prop := groupElementsRow.holds Try.pinned (OpenSpec.ofChange groupElementsWrong)

/-- 'semigrouplaw16.GroupMoves': WHATEVER THE INPUT: true; the input reads as it did. -/
def groupMovesSpec : ChangeSpec := { name := "groupMoves", fn := fun _ => fun
  | [d1, d2, d3] => { results := [.lit (.bool true)], args := [d1, d2, d3] }
  | _ => none }
def groupMovesRow : OpenClaim := { program := "ytbpajecjaoefaaa", sum := "58cf7fab792d0cfa00b814cf2ad31b5e191d0c844371c7ca538474231c7b013f", func := "semigroup/semigrouplaw16.GroupMoves", spec := "groupMoves", inPlace := ["internal/reflectlite.ValueOf", "internal/reflectlite.Swapper", "(internal/reflectlite.Value).Len"], unfollowed := true, recurses := true, apart := false }
def GroupMovesSaid : Prop := groupMovesRow.holds Try.pinned (OpenSpec.ofChange groupMovesSpec)

/-- ITS FALSE NEIGHBOUR: 'it returns false'. Refute it at one input. -/
def groupMovesWrong : ChangeSpec := { name := "groupMoves", fn := fun _ => fun
  | [d1, d2, d3] => { results := [.lit (.bool false)], args := [d1, d2, d3] }
  | _ => none }
def GroupMovesWrongFalsely : Prop := groupMovesRow.holds Try.pinned (OpenSpec.ofChange groupMovesWrong)

/- THE SECOND FORM. 'bulk': how many values and letters a reading holds, each counted each time it is reached (what is shared counts as often as it is met; a slice's spare places count too). A statement '..UptoSaid' is the law's where the arguments, and the package variables that the reading takes, are together of bulk at most 1048576: NARROWER than '..Said'. Prove '..Said' where nothing that the law and all that it calls make is longer than what came in: it says more and counts as full. Else prove '..UptoSaid'. A law counts once. -/
mutual
def uptoBulk {H : Type} : DataW H → Nat
  | .lit (.string bytes) => bytes.length + 1
  | .lit _ => 1
  | .nil => 1
  | .ptr d => uptoBulk d + 1
  | .slice elems spare => uptoBulkAll elems + uptoBulkAll spare + 1
  | .agg parts => uptoBulkAll parts + 1
  | .iface _ d => uptoBulk d + 1
  | .map entries => uptoBulkEntries entries + 1
  | .held _ => 1
def uptoBulkAll {H : Type} : List (DataW H) → Nat
  | [] => 0
  | d :: r => uptoBulk d + uptoBulkAll r
def uptoBulkEntries {H : Type} : List (Lit × DataW H) → Nat
  | [] => 0
  | x :: r => uptoBulkEntry x + uptoBulkEntries r
def uptoBulkEntry {H : Type} : Lit × DataW H → Nat
  | (.string bytes, d) => bytes.length + uptoBulk d + 1
  | (_, d) => uptoBulk d + 1
 end
def uptoSmall : (H : Type) → List (DataW H) → Bool := fun _ ds => decide (uptoBulkAll ds ≤ 1048576)
def OpenSpec.upto (s : _root_.Go.ChangeSpec) : _root_.Go.OpenSpec := { _root_.Go.OpenSpec.ofChange s with cond := some uptoSmall }

/-- 'semigrouplaw16.GroupGenerates', WHERE WHAT IT READS IS OF BULK AT MOST 1048576: true; the input reads as it did. -/
def groupGeneratesUptoRow : OpenClaim := { program := "ytbpajecjaoefaaa", sum := "58cf7fab792d0cfa00b814cf2ad31b5e191d0c844371c7ca538474231c7b013f", func := "semigroup/semigrouplaw16.GroupGenerates", spec := "groupGenerates", inPlace := ["internal/reflectlite.ValueOf", "internal/reflectlite.Swapper", "(internal/reflectlite.Value).Len"], unfollowed := true, recurses := true, apart := false, narrowed := true }
def GroupGeneratesUptoSaid : Prop := groupGeneratesUptoRow.holds Try.pinned (OpenSpec.upto groupGeneratesSpec)

/-- 'semigrouplaw16.GroupTables', WHERE WHAT IT READS IS OF BULK AT MOST 1048576: true; the input reads as it did. -/
def groupTablesUptoRow : OpenClaim := { program := "ytbpajecjaoefaaa", sum := "58cf7fab792d0cfa00b814cf2ad31b5e191d0c844371c7ca538474231c7b013f", func := "semigroup/semigrouplaw16.GroupTables", spec := "groupTables", inPlace := ["internal/reflectlite.ValueOf", "internal/reflectlite.Swapper", "(internal/reflectlite.Value).Len"], unfollowed := true, recurses := true, apart := false, narrowed := true }
def GroupTablesUptoSaid : Prop := groupTablesUptoRow.holds Try.pinned (OpenSpec.upto groupTablesSpec)

/-- 'semigrouplaw16.GroupElements', WHERE WHAT IT READS IS OF BULK AT MOST 1048576: true; the input reads as it did. -/
def groupElementsUptoRow : OpenClaim := { program := "ytbpajecjaoefaaa", sum := "58cf7fab792d0cfa00b814cf2ad31b5e191d0c844371c7ca538474231c7b013f", func := "semigroup/semigrouplaw16.GroupElements", spec := "groupElements", inPlace := ["internal/reflectlite.ValueOf", "internal/reflectlite.Swapper", "(internal/reflectlite.Value).Len"], unfollowed := true, recurses := true, apart := false, narrowed := true }
def GroupElementsUptoSaid : Prop := groupElementsUptoRow.holds Try.pinned (OpenSpec.upto groupElementsSpec)

/-- 'semigrouplaw16.GroupMoves', WHERE WHAT IT READS IS OF BULK AT MOST 1048576: true; the input reads as it did. -/
def groupMovesUptoRow : OpenClaim := { program := "ytbpajecjaoefaaa", sum := "58cf7fab792d0cfa00b814cf2ad31b5e191d0c844371c7ca538474231c7b013f", func := "semigroup/semigrouplaw16.GroupMoves", spec := "groupMoves", inPlace := ["internal/reflectlite.ValueOf", "internal/reflectlite.Swapper", "(internal/reflectlite.Value).Len"], unfollowed := true, recurses := true, apart := false, narrowed := true }
def GroupMovesUptoSaid : Prop := groupMovesUptoRow.holds Try.pinned (OpenSpec.upto groupMovesSpec)

end Rows
end Go.Proofs.Ytbpajecjaoefaaa
