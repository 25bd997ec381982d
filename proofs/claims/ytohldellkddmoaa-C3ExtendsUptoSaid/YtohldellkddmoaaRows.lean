/-
  No cell of these rows narrows 'for every input' (looked for: loops, veiled, ifaces, maps, wideKeys, modest, calm, conditions, laid).
  DERIVED. THE GIVEN ROWS OF THIS SEAT. 10 by the template 'for every input the law returns true; each argument reads behind the call as it read before'; 0 by the template 'total and deterministic' (their statements: YtohldellkddmoaaTotals.lean).
  GIVEN WITH THE SEED: the statements are not yours to turn. If you find one false, say at which input.
  Laid BY PROGRAM, IN A SANDBOX (cutbox-rows.mjs): the forced cells as the released guide's own fill.sh prints them over the translation b14d9cd825e3b1d8… (all of the seat's roots in one cut). By AI agents, Wed Nov 11 2026. No macro, syntax, notation, axiom, sorry.
-/
import Derived.Test.YtohldellkddmoaaChecked
import GoSem.Claim
import GoSem.ClaimJoined
import GoSem.ClaimMapViews
import Derived.JoinedTies
import Derived.KernelRfl
namespace Go.Proofs.Ytohldellkddmoaa
/- THE CELL 'sum', in the pinned program and in every row, IS THE sha256 OF THE DUMP (.gsa) THAT YtohldellkddmoaaProg.lean LOADS. Nothing in Lean hashes anything: it is a label: what it is worth is what the hold of that sum in a sandbox is worth. -/
noncomputable def Try.pinned : Pinned := { name := "ytohldellkddmoaa", sum := "b14d9cd825e3b1d85aeac837073b4ba56d9ce12acc17aadb2f7a8cdac2e2ef04", checked := Try.checked }
namespace Rows
def none {H : Type} : Left H := { results := [], args := [] }

/-- 'skerrylaw07.C3Merges': WHATEVER THE INPUT: true; the input reads as it did. -/
def c3MergesSpec : ChangeSpec := { name := "c3Merges", fn := fun _ => fun
  | [d] => { results := [.lit (.bool true)], args := [d] }
  | _ => none }
def c3MergesRow : OpenClaim := { program := "ytohldellkddmoaa", sum := "b14d9cd825e3b1d85aeac837073b4ba56d9ce12acc17aadb2f7a8cdac2e2ef04", func := "skerry/skerrylaw07.C3Merges", spec := "c3Merges", unfollowed := true, recurses := true, apart := false }
def C3MergesSaid : Prop := c3MergesRow.holds Try.pinned (OpenSpec.ofChange c3MergesSpec)

/-- ITS FALSE NEIGHBOUR: 'it returns false'. Refute it at one input. -/
def c3MergesWrong : ChangeSpec := { name := "c3Merges", fn := fun _ => fun
  | [d] => { results := [.lit (.bool false)], args := [d] }
  | _ => none }
def C3MergesWrongFalsely : Prop := c3MergesRow.holds Try.pinned (OpenSpec.ofChange c3MergesWrong)

/-- 'skerrylaw07.C3Linear': WHATEVER THE INPUT: true; the input reads as it did. -/
def c3LinearSpec : ChangeSpec := { name := "c3Linear", fn := fun _ => fun
  | [d1, d2] => { results := [.lit (.bool true)], args := [d1, d2] }
  | _ => none }
def c3LinearRow : OpenClaim := { program := "ytohldellkddmoaa", sum := "b14d9cd825e3b1d85aeac837073b4ba56d9ce12acc17aadb2f7a8cdac2e2ef04", func := "skerry/skerrylaw07.C3Linear", spec := "c3Linear", unfollowed := true, recurses := true, apart := false }
def C3LinearSaid : Prop := c3LinearRow.holds Try.pinned (OpenSpec.ofChange c3LinearSpec)

/-- ITS FALSE NEIGHBOUR: 'it returns false'. Refute it at one input. -/
def c3LinearWrong : ChangeSpec := { name := "c3Linear", fn := fun _ => fun
  | [d1, d2] => { results := [.lit (.bool false)], args := [d1, d2] }
  | _ => none }
def C3LinearWrongFalsely : Prop := c3LinearRow.holds Try.pinned (OpenSpec.ofChange c3LinearWrong)

/-- 'skerrylaw07.C3Order': WHATEVER THE INPUT: true; the input reads as it did. -/
def c3OrderSpec : ChangeSpec := { name := "c3Order", fn := fun _ => fun
  | [d1, d2] => { results := [.lit (.bool true)], args := [d1, d2] }
  | _ => none }
def c3OrderRow : OpenClaim := { program := "ytohldellkddmoaa", sum := "b14d9cd825e3b1d85aeac837073b4ba56d9ce12acc17aadb2f7a8cdac2e2ef04", func := "skerry/skerrylaw07.C3Order", spec := "c3Order", unfollowed := true, recurses := true, apart := false }
def C3OrderSaid : Prop := c3OrderRow.holds Try.pinned (OpenSpec.ofChange c3OrderSpec)

/-- ITS FALSE NEIGHBOUR: 'it returns false'. Refute it at one input. -/
def c3OrderWrong : ChangeSpec := { name := "c3Order", fn := fun _ => fun
  | [d1, d2] => { results := [.lit (.bool false)], args := [d1, d2] }
  | _ => none }
def C3OrderWrongFalsely : Prop := c3OrderRow.holds Try.pinned (OpenSpec.ofChange c3OrderWrong)

/-- 'skerrylaw07.C3Extends': WHATEVER THE INPUT: true; the input reads as it did. -/
def c3ExtendsSpec : ChangeSpec := { name := "c3Extends", fn := fun _ => fun
  | [d1, d2, d3] => { results := [.lit (.bool true)], args := [d1, d2, d3] }
  | _ => none }
def c3ExtendsRow : OpenClaim := { program := "ytohldellkddmoaa", sum := "b14d9cd825e3b1d85aeac837073b4ba56d9ce12acc17aadb2f7a8cdac2e2ef04", func := "skerry/skerrylaw07.C3Extends", spec := "c3Extends", unfollowed := true, recurses := true, apart := false }
def C3ExtendsSaid : Prop := c3ExtendsRow.holds Try.pinned (OpenSpec.ofChange c3ExtendsSpec)

/-- ITS FALSE NEIGHBOUR: 'it returns false'. Refute it at one input. -/
def c3ExtendsWrong : ChangeSpec := { name := "c3Extends", fn := fun _ => fun
  | [d1, d2, d3] => { results := [.lit (.bool false)], args := [d1, d2, d3] }
  | _ => none }
def C3ExtendsWrongFalsely : Prop := c3ExtendsRow.holds Try.pinned (OpenSpec.ofChange c3ExtendsWrong)

/-- 'skerrylaw07.C3Names': WHATEVER THE INPUT: true; the input reads as it did. -/
def c3NamesSpec : ChangeSpec := { name := "c3Names", fn := fun _ => fun
  | [d1, d2, d3] => { results := [.lit (.bool true)], args := [d1, d2, d3] }
  | _ => none }
def c3NamesRow : OpenClaim := { program := "ytohldellkddmoaa", sum := "b14d9cd825e3b1d85aeac837073b4ba56d9ce12acc17aadb2f7a8cdac2e2ef04", func := "skerry/skerrylaw07.C3Names", spec := "c3Names", unfollowed := true, recurses := true, apart := false }
def C3NamesSaid : Prop := c3NamesRow.holds Try.pinned (OpenSpec.ofChange c3NamesSpec)

/-- ITS FALSE NEIGHBOUR: 'it returns false'. Refute it at one input. -/
def c3NamesWrong : ChangeSpec := { name := "c3Names", fn := fun _ => fun
  | [d1, d2, d3] => { results := [.lit (.bool false)], args := [d1, d2, d3] }
  | _ => none }
def C3NamesWrongFalsely : Prop := c3NamesRow.holds Try.pinned (OpenSpec.ofChange c3NamesWrong)

/-- 'skerrylaw07.C3Simple': WHATEVER THE INPUT: true; the input reads as it did. -/
def c3SimpleSpec : ChangeSpec := { name := "c3Simple", fn := fun _ => fun
  | [d1, d2, d3] => { results := [.lit (.bool true)], args := [d1, d2, d3] }
  | _ => none }
def c3SimpleRow : OpenClaim := { program := "ytohldellkddmoaa", sum := "b14d9cd825e3b1d85aeac837073b4ba56d9ce12acc17aadb2f7a8cdac2e2ef04", func := "skerry/skerrylaw07.C3Simple", spec := "c3Simple", unfollowed := true, recurses := true, apart := false }
def C3SimpleSaid : Prop := c3SimpleRow.holds Try.pinned (OpenSpec.ofChange c3SimpleSpec)

/-- ITS FALSE NEIGHBOUR: 'it returns false'. Refute it at one input. -/
def c3SimpleWrong : ChangeSpec := { name := "c3Simple", fn := fun _ => fun
  | [d1, d2, d3] => { results := [.lit (.bool false)], args := [d1, d2, d3] }
  | _ => none }
def C3SimpleWrongFalsely : Prop := c3SimpleRow.holds Try.pinned (OpenSpec.ofChange c3SimpleWrong)

/-- 'skerrylaw07.C3Merging': WHATEVER THE INPUT: true; the input reads as it did. -/
def c3MergingSpec : ChangeSpec := { name := "c3Merging", fn := fun _ => fun
  | [d1, d2] => { results := [.lit (.bool true)], args := [d1, d2] }
  | _ => none }
def c3MergingRow : OpenClaim := { program := "ytohldellkddmoaa", sum := "b14d9cd825e3b1d85aeac837073b4ba56d9ce12acc17aadb2f7a8cdac2e2ef04", func := "skerry/skerrylaw07.C3Merging", spec := "c3Merging", unfollowed := true, recurses := true, apart := false }
def C3MergingSaid : Prop := c3MergingRow.holds Try.pinned (OpenSpec.ofChange c3MergingSpec)

/-- ITS FALSE NEIGHBOUR: 'it returns false'. Refute it at one input. -/
def c3MergingWrong : ChangeSpec := { name := "c3Merging", fn := fun _ => fun
  | [d1, d2] => { results := [.lit (.bool false)], args := [d1, d2] }
  | _ => none }
def C3MergingWrongFalsely : Prop := c3MergingRow.holds Try.pinned (OpenSpec.ofChange c3MergingWrong)

/-- 'skerrylaw07.C3Classes': WHATEVER THE INPUT: true; the input reads as it did. -/
def c3ClassesSpec : ChangeSpec := { name := "c3Classes", fn := fun _ => fun
  | [d1, d2, d3] => { results := [.lit (.bool true)], args := [d1, d2, d3] }
  | _ => none }
def c3ClassesRow : OpenClaim := { program := "ytohldellkddmoaa", sum := "b14d9cd825e3b1d85aeac837073b4ba56d9ce12acc17aadb2f7a8cdac2e2ef04", func := "skerry/skerrylaw07.C3Classes", spec := "c3Classes", unfollowed := true, recurses := true, apart := false }
def C3ClassesSaid : Prop := c3ClassesRow.holds Try.pinned (OpenSpec.ofChange c3ClassesSpec)

/-- ITS FALSE NEIGHBOUR: 'it returns false'. Refute it at one input. -/
def c3ClassesWrong : ChangeSpec := { name := "c3Classes", fn := fun _ => fun
  | [d1, d2, d3] => { results := [.lit (.bool false)], args := [d1, d2, d3] }
  | _ => none }
def C3ClassesWrongFalsely : Prop := c3ClassesRow.holds Try.pinned (OpenSpec.ofChange c3ClassesWrong)

/-- 'skerrylaw07.C3Impossible': WHATEVER THE INPUT: true; the input reads as it did. -/
def c3ImpossibleSpec : ChangeSpec := { name := "c3Impossible", fn := fun _ => fun
  | [d1, d2, d3] => { results := [.lit (.bool true)], args := [d1, d2, d3] }
  | _ => none }
def c3ImpossibleRow : OpenClaim := { program := "ytohldellkddmoaa", sum := "b14d9cd825e3b1d85aeac837073b4ba56d9ce12acc17aadb2f7a8cdac2e2ef04", func := "skerry/skerrylaw07.C3Impossible", spec := "c3Impossible", unfollowed := true, recurses := true, apart := false }
def C3ImpossibleSaid : Prop := c3ImpossibleRow.holds Try.pinned (OpenSpec.ofChange c3ImpossibleSpec)

/-- ITS FALSE NEIGHBOUR: 'it returns false'. Refute it at one input. -/
def c3ImpossibleWrong : ChangeSpec := { name := "c3Impossible", fn := fun _ => fun
  | [d1, d2, d3] => { results := [.lit (.bool false)], args := [d1, d2, d3] }
  | _ => none }
def C3ImpossibleWrongFalsely : Prop := c3ImpossibleRow.holds Try.pinned (OpenSpec.ofChange c3ImpossibleWrong)

/-- 'skerrylaw07.C3Checks': WHATEVER THE INPUT: true; the input reads as it did. -/
def c3ChecksSpec : ChangeSpec := { name := "c3Checks", fn := fun _ => fun
  | [d1, d2, d3] => { results := [.lit (.bool true)], args := [d1, d2, d3] }
  | _ => none }
def c3ChecksRow : OpenClaim := { program := "ytohldellkddmoaa", sum := "b14d9cd825e3b1d85aeac837073b4ba56d9ce12acc17aadb2f7a8cdac2e2ef04", func := "skerry/skerrylaw07.C3Checks", spec := "c3Checks", unfollowed := true, recurses := true, apart := false }
def C3ChecksSaid : Prop := c3ChecksRow.holds Try.pinned (OpenSpec.ofChange c3ChecksSpec)

/-- ITS FALSE NEIGHBOUR: 'it returns false'. Refute it at one input. -/
def c3ChecksWrong : ChangeSpec := { name := "c3Checks", fn := fun _ => fun
  | [d1, d2, d3] => { results := [.lit (.bool false)], args := [d1, d2, d3] }
  | _ => none }
def C3ChecksWrongFalsely : Prop := c3ChecksRow.holds Try.pinned (OpenSpec.ofChange c3ChecksWrong)

/- THE SECOND FORM. 'bulk': how many values and letters a reading holds, each counted each time it is reached (what is shared counts as often as it is met; a slice's spare places count too). A statement '..UptoSaid' is the law's where the arguments, and the package variables that the reading takes, are together of bulk at most 1048576: NARROWER than '..Said'. Prove '..Said' where nothing that the law and all that it calls make is longer than what came in: it says more and counts as full. Else prove '..UptoSaid'. A law counts once. -/
mutual
def uptoBulk {H : Type} : DataW H → Nat
  | .lit (.string bytes) => bytes.length + 1
  | .lit _ => 1
  | .nil => 1
  | .ptr d => uptoBulk d + 1
  | .slice elems spare => uptoBulkAll elems + uptoBulkAll spare + 1
  | .agg parts => uptoBulkAll parts + 1
  | .iface _ d => uptoBulk d + 1
  | .map entries => uptoBulkEntries entries + 1
  | .held _ => 1
def uptoBulkAll {H : Type} : List (DataW H) → Nat
  | [] => 0
  | d :: r => uptoBulk d + uptoBulkAll r
def uptoBulkEntries {H : Type} : List (Lit × DataW H) → Nat
  | [] => 0
  | x :: r => uptoBulkEntry x + uptoBulkEntries r
def uptoBulkEntry {H : Type} : Lit × DataW H → Nat
  | (.string bytes, d) => bytes.length + uptoBulk d + 1
  | (_, d) => uptoBulk d + 1
 end
def uptoSmall : (H : Type) → List (DataW H) → Bool := fun _ ds => decide (uptoBulkAll ds ≤ 1048576)
def OpenSpec.upto (s : _root_.Go.ChangeSpec) : _root_.Go.OpenSpec := { _root_.Go.OpenSpec.ofChange s with cond := some uptoSmall }

/-- 'skerrylaw07.C3Merges', WHERE WHAT IT READS IS OF BULK AT MOST 1048576: true; the input reads as it did. -/
def c3MergesUptoRow : OpenClaim := { program := "ytohldellkddmoaa", sum := "b14d9cd825e3b1d85aeac837073b4ba56d9ce12acc17aadb2f7a8cdac2e2ef04", func := "skerry/skerrylaw07.C3Merges", spec := "c3Merges", unfollowed := true, recurses := true, apart := false, narrowed := true }
def C3MergesUptoSaid : Prop := c3MergesUptoRow.holds Try.pinned (OpenSpec.upto c3MergesSpec)

/-- 'skerrylaw07.C3Linear', WHERE WHAT IT READS IS OF BULK AT MOST 1048576: true; the input reads as it did. -/
def c3LinearUptoRow : OpenClaim := { program := "ytohldellkddmoaa", sum := "b14d9cd825e3b1d85aeac837073b4ba56d9ce12acc17aadb2f7a8cdac2e2ef04", func := "skerry/skerrylaw07.C3Linear", spec := "c3Linear", unfollowed := true, recurses := true, apart := false, narrowed := true }
def C3LinearUptoSaid : Prop := c3LinearUptoRow.holds Try.pinned (OpenSpec.upto c3LinearSpec)

/-- 'skerrylaw07.C3Order', WHERE WHAT IT READS IS OF BULK AT MOST 1048576: true; the input reads as it did. -/
def c3OrderUptoRow : OpenClaim := { program := "ytohldellkddmoaa", sum := "b14d9cd825e3b1d85aeac837073b4ba56d9ce12acc17aadb2f7a8cdac2e2ef04", func := "skerry/skerrylaw07.C3Order", spec := "c3Order", unfollowed := true, recurses := true, apart := false, narrowed := true }
def C3OrderUptoSaid : Prop := c3OrderUptoRow.holds Try.pinned (OpenSpec.upto c3OrderSpec)

/-- 'skerrylaw07.C3Extends', WHERE WHAT IT READS IS OF BULK AT MOST 1048576: true; the input reads as it did. -/
def c3ExtendsUptoRow : OpenClaim := { program := "ytohldellkddmoaa", sum := "b14d9cd825e3b1d85aeac837073b4ba56d9ce12acc17aadb2f7a8cdac2e2ef04", func := "skerry/skerrylaw07.C3Extends", spec := "c3Extends", unfollowed := true, recurses := true, apart := false, narrowed := true }
def C3ExtendsUptoSaid : Prop := c3ExtendsUptoRow.holds Try.pinned (OpenSpec.upto c3ExtendsSpec)

/-- 'skerrylaw07.C3Names', WHERE WHAT IT READS IS OF BULK AT MOST 1048576: true; the input reads as it did. -/
def c3NamesUptoRow : OpenClaim := { program := "ytohldellkddmoaa", sum := "b14d9cd825e3b1d85aeac837073b4ba56d9ce12acc17aadb2f7a8cdac2e2ef04", func := "skerry/skerrylaw07.C3Names", spec := "c3Names", unfollowed := true, recurses := true, apart := false, narrowed := true }
def C3NamesUptoSaid : Prop := c3NamesUptoRow.holds Try.pinned (OpenSpec.upto c3NamesSpec)

/-- 'skerrylaw07.C3Simple', WHERE WHAT IT READS IS OF BULK AT MOST 1048576: true; the input reads as it did. -/
def c3SimpleUptoRow : OpenClaim := { program := "ytohldellkddmoaa", sum := "b14d9cd825e3b1d85aeac837073b4ba56d9ce12acc17aadb2f7a8cdac2e2ef04", func := "skerry/skerrylaw07.C3Simple", spec := "c3Simple", unfollowed := true, recurses := true, apart := false, narrowed := true }
def C3SimpleUptoSaid : Prop := c3SimpleUptoRow.holds Try.pinned (OpenSpec.upto c3SimpleSpec)

/-- 'skerrylaw07.C3Merging', WHERE WHAT IT READS IS OF BULK AT MOST 1048576: true; the input reads as it did. -/
def c3MergingUptoRow : OpenClaim := { program := "ytohldellkddmoaa", sum := "b14d9cd825e3b1d85aeac837073b4ba56d9ce12acc17aadb2f7a8cdac2e2ef04", func := "skerry/skerrylaw07.C3Merging", spec := "c3Merging", unfollowed := true, recurses := true, apart := false, narrowed := true }
def C3MergingUptoSaid : Prop := c3MergingUptoRow.holds Try.pinned (OpenSpec.upto c3MergingSpec)

/-- 'skerrylaw07.C3Classes', WHERE WHAT IT READS IS OF BULK AT MOST 1048576: true; the input reads as it did. -/
def c3ClassesUptoRow : OpenClaim := { program := "ytohldellkddmoaa", sum := "b14d9cd825e3b1d85aeac837073b4ba56d9ce12acc17aadb2f7a8cdac2e2ef04", func := "skerry/skerrylaw07.C3Classes", spec := "c3Classes", unfollowed := true, recurses := true, apart := false, narrowed := true }
def C3ClassesUptoSaid : Prop := c3ClassesUptoRow.holds Try.pinned (OpenSpec.upto c3ClassesSpec)

/-- 'skerrylaw07.C3Impossible', WHERE WHAT IT READS IS OF BULK AT MOST 1048576: true; the input reads as it did. -/
def c3ImpossibleUptoRow : OpenClaim := { program := "ytohldellkddmoaa", sum := "b14d9cd825e3b1d85aeac837073b4ba56d9ce12acc17aadb2f7a8cdac2e2ef04", func := "skerry/skerrylaw07.C3Impossible", spec := "c3Impossible", unfollowed := true, recurses := true, apart := false, narrowed := true }
def C3ImpossibleUptoSaid : Prop := c3ImpossibleUptoRow.holds Try.pinned (OpenSpec.upto c3ImpossibleSpec)

/-- 'skerrylaw07.C3Checks', WHERE WHAT IT READS IS OF BULK AT MOST 1048576: true; the input reads as it did. -/
def c3ChecksUptoRow : OpenClaim := { program := "ytohldellkddmoaa", sum := "b14d9cd825e3b1d85aeac837073b4ba56d9ce12acc17aadb2f7a8cdac2e2ef04", func := "skerry/skerrylaw07.C3Checks", spec := "c3Checks", unfollowed := true, recurses := true, apart := false, narrowed := true }
def C3ChecksUptoSaid : Prop := c3ChecksUptoRow.holds Try.pinned (OpenSpec.upto c3ChecksSpec)

end Rows
end Go.Proofs.Ytohldellkddmoaa
