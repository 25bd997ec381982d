/-
  NARROWER THAN 'FOR EVERY INPUT', by the rows' own cells (each row's printed sentence says how): ClassesPlans: loops · ClassesInherited: loops · ClassesDeclared: loops · ClassesFilled: loops · ClassesFinds: loops · ClassesShares: loops · ClassesChecks: loops · ClassesRedefines: loops · ClassesAgain: loops · ClassesMigrated: loops · ClassesTwice: loops · ClassesMigrates: loops.
  DERIVED. THE GIVEN ROWS OF THIS SEAT. 12 by the template 'for every input the law returns true; each argument reads behind the call as it read before'; 0 by the template 'total and deterministic' (their statements: YtbojdflgjpjbiaaGreatTotals.lean).
  GIVEN WITH THE SEED: the statements are not yours to turn. If you find one false, say at which input.
  Laid BY PROGRAM, IN A SANDBOX (cutbox-rows.mjs): the forced cells as the released guide's own fill.sh prints them over the translation 67d7526a26b9f218… (all of the seat's roots in one cut). By AI agents, Wed Nov 11 2026. No macro, syntax, notation, axiom, sorry.
-/
import Derived.Test.YtbojdflgjpjbiaaGreatChecked
import GoSem.Claim
import GoSem.ClaimJoined
import GoSem.ClaimMapViews
import Derived.JoinedTies
import Derived.KernelRfl
namespace Go.Proofs.YtbojdflgjpjbiaaGreat
/- THE CELL 'sum', in the pinned program and in every row, IS THE sha256 OF THE DUMP (.gsa) THAT YtbojdflgjpjbiaaGreatProg.lean LOADS. Nothing in Lean hashes anything: it is a label: what it is worth is what the hold of that sum in a sandbox is worth. -/
noncomputable def Tryz.pinned : Pinned := { name := "ytbojdflgjpjbiaagreat", sum := "67d7526a26b9f218eba660bdf3c84f4e21024f6f1e39adb57ee478a642d5b354", checked := Tryz.checked }
namespace Rows
def none {H : Type} : Left H := { results := [], args := [] }

/-- 'skerrylaw09.ClassesPlans': WHATEVER THE INPUT: true; the input reads as it did. -/
def classesPlansSpec : ChangeSpec := { name := "classesPlans", fn := fun _ => fun
  | [d1, d2, d3] => { results := [.lit (.bool true)], args := [d1, d2, d3] }
  | _ => none }
def classesPlansRow : OpenClaim := { program := "ytbojdflgjpjbiaagreat", sum := "67d7526a26b9f218eba660bdf3c84f4e21024f6f1e39adb57ee478a642d5b354", func := "skerry/skerrylaw09.ClassesPlans", spec := "classesPlans", unfollowed := true, recurses := true, loops := true, apart := false }
def ClassesPlansSaid : Prop := classesPlansRow.holds Tryz.pinned (OpenSpec.ofChange classesPlansSpec)

/-- ITS FALSE NEIGHBOUR: 'it returns false'. Refute it at one input. -/
def classesPlansWrong : ChangeSpec := { name := "classesPlans", fn := fun _ => fun
  | [d1, d2, d3] => { results := [.lit (.bool false)], args := [d1, d2, d3] }
  | _ => none }
def ClassesPlansWrongFalsely : Prop := classesPlansRow.holds Tryz.pinned (OpenSpec.ofChange classesPlansWrong)

/-- 'skerrylaw09.ClassesInherited': WHATEVER THE INPUT: true; the input reads as it did. -/
def classesInheritedSpec : ChangeSpec := { name := "classesInherited", fn := fun _ => fun
  | [d1, d2] => { results := [.lit (.bool true)], args := [d1, d2] }
  | _ => none }
def classesInheritedRow : OpenClaim := { program := "ytbojdflgjpjbiaagreat", sum := "67d7526a26b9f218eba660bdf3c84f4e21024f6f1e39adb57ee478a642d5b354", func := "skerry/skerrylaw09.ClassesInherited", spec := "classesInherited", unfollowed := true, recurses := true, loops := true, apart := false }
def ClassesInheritedSaid : Prop := classesInheritedRow.holds Tryz.pinned (OpenSpec.ofChange classesInheritedSpec)

/-- ITS FALSE NEIGHBOUR: 'it returns false'. Refute it at one input. -/
def classesInheritedWrong : ChangeSpec := { name := "classesInherited", fn := fun _ => fun
  | [d1, d2] => { results := [.lit (.bool false)], args := [d1, d2] }
  | _ => none }
def ClassesInheritedWrongFalsely : Prop := classesInheritedRow.holds Tryz.pinned (OpenSpec.ofChange classesInheritedWrong)

/-- 'skerrylaw09.ClassesDeclared': WHATEVER THE INPUT: true; the input reads as it did. -/
def classesDeclaredSpec : ChangeSpec := { name := "classesDeclared", fn := fun _ => fun
  | [d1, d2] => { results := [.lit (.bool true)], args := [d1, d2] }
  | _ => none }
def classesDeclaredRow : OpenClaim := { program := "ytbojdflgjpjbiaagreat", sum := "67d7526a26b9f218eba660bdf3c84f4e21024f6f1e39adb57ee478a642d5b354", func := "skerry/skerrylaw09.ClassesDeclared", spec := "classesDeclared", unfollowed := true, recurses := true, loops := true, apart := false }
def ClassesDeclaredSaid : Prop := classesDeclaredRow.holds Tryz.pinned (OpenSpec.ofChange classesDeclaredSpec)

/-- ITS FALSE NEIGHBOUR: 'it returns false'. Refute it at one input. -/
def classesDeclaredWrong : ChangeSpec := { name := "classesDeclared", fn := fun _ => fun
  | [d1, d2] => { results := [.lit (.bool false)], args := [d1, d2] }
  | _ => none }
def ClassesDeclaredWrongFalsely : Prop := classesDeclaredRow.holds Tryz.pinned (OpenSpec.ofChange classesDeclaredWrong)

/-- 'skerrylaw09.ClassesFilled': WHATEVER THE INPUT: true; the input reads as it did. -/
def classesFilledSpec : ChangeSpec := { name := "classesFilled", fn := fun _ => fun
  | [d1, d2, d3] => { results := [.lit (.bool true)], args := [d1, d2, d3] }
  | _ => none }
def classesFilledRow : OpenClaim := { program := "ytbojdflgjpjbiaagreat", sum := "67d7526a26b9f218eba660bdf3c84f4e21024f6f1e39adb57ee478a642d5b354", func := "skerry/skerrylaw09.ClassesFilled", spec := "classesFilled", unfollowed := true, recurses := true, loops := true, apart := false }
def ClassesFilledSaid : Prop := classesFilledRow.holds Tryz.pinned (OpenSpec.ofChange classesFilledSpec)

/-- ITS FALSE NEIGHBOUR: 'it returns false'. Refute it at one input. -/
def classesFilledWrong : ChangeSpec := { name := "classesFilled", fn := fun _ => fun
  | [d1, d2, d3] => { results := [.lit (.bool false)], args := [d1, d2, d3] }
  | _ => none }
def ClassesFilledWrongFalsely : Prop := classesFilledRow.holds Tryz.pinned (OpenSpec.ofChange classesFilledWrong)

/-- 'skerrylaw09.ClassesFinds': WHATEVER THE INPUT: true; the input reads as it did. -/
def classesFindsSpec : ChangeSpec := { name := "classesFinds", fn := fun _ => fun
  | [d1, d2, d3] => { results := [.lit (.bool true)], args := [d1, d2, d3] }
  | _ => none }
def classesFindsRow : OpenClaim := { program := "ytbojdflgjpjbiaagreat", sum := "67d7526a26b9f218eba660bdf3c84f4e21024f6f1e39adb57ee478a642d5b354", func := "skerry/skerrylaw09.ClassesFinds", spec := "classesFinds", unfollowed := true, recurses := true, loops := true, apart := false }
def ClassesFindsSaid : Prop := classesFindsRow.holds Tryz.pinned (OpenSpec.ofChange classesFindsSpec)

/-- ITS FALSE NEIGHBOUR: 'it returns false'. Refute it at one input. -/
def classesFindsWrong : ChangeSpec := { name := "classesFinds", fn := fun _ => fun
  | [d1, d2, d3] => { results := [.lit (.bool false)], args := [d1, d2, d3] }
  | _ => none }
def ClassesFindsWrongFalsely : Prop := classesFindsRow.holds Tryz.pinned (OpenSpec.ofChange classesFindsWrong)

/-- 'skerrylaw09.ClassesShares': WHATEVER THE INPUT: true; the input reads as it did. -/
def classesSharesSpec : ChangeSpec := { name := "classesShares", fn := fun _ => fun
  | [d1, d2, d3] => { results := [.lit (.bool true)], args := [d1, d2, d3] }
  | _ => none }
def classesSharesRow : OpenClaim := { program := "ytbojdflgjpjbiaagreat", sum := "67d7526a26b9f218eba660bdf3c84f4e21024f6f1e39adb57ee478a642d5b354", func := "skerry/skerrylaw09.ClassesShares", spec := "classesShares", unfollowed := true, recurses := true, loops := true, apart := false }
def ClassesSharesSaid : Prop := classesSharesRow.holds Tryz.pinned (OpenSpec.ofChange classesSharesSpec)

/-- ITS FALSE NEIGHBOUR: 'it returns false'. Refute it at one input. -/
def classesSharesWrong : ChangeSpec := { name := "classesShares", fn := fun _ => fun
  | [d1, d2, d3] => { results := [.lit (.bool false)], args := [d1, d2, d3] }
  | _ => none }
def ClassesSharesWrongFalsely : Prop := classesSharesRow.holds Tryz.pinned (OpenSpec.ofChange classesSharesWrong)

/-- 'skerrylaw09.ClassesChecks': WHATEVER THE INPUT: true; the input reads as it did. -/
def classesChecksSpec : ChangeSpec := { name := "classesChecks", fn := fun _ => fun
  | [d1, d2] => { results := [.lit (.bool true)], args := [d1, d2] }
  | _ => none }
def classesChecksRow : OpenClaim := { program := "ytbojdflgjpjbiaagreat", sum := "67d7526a26b9f218eba660bdf3c84f4e21024f6f1e39adb57ee478a642d5b354", func := "skerry/skerrylaw09.ClassesChecks", spec := "classesChecks", unfollowed := true, recurses := true, loops := true, apart := false }
def ClassesChecksSaid : Prop := classesChecksRow.holds Tryz.pinned (OpenSpec.ofChange classesChecksSpec)

/-- ITS FALSE NEIGHBOUR: 'it returns false'. Refute it at one input. -/
def classesChecksWrong : ChangeSpec := { name := "classesChecks", fn := fun _ => fun
  | [d1, d2] => { results := [.lit (.bool false)], args := [d1, d2] }
  | _ => none }
def ClassesChecksWrongFalsely : Prop := classesChecksRow.holds Tryz.pinned (OpenSpec.ofChange classesChecksWrong)

/-- 'skerrylaw09.ClassesRedefines': WHATEVER THE INPUT: true; the input reads as it did. -/
def classesRedefinesSpec : ChangeSpec := { name := "classesRedefines", fn := fun _ => fun
  | [d1, d2] => { results := [.lit (.bool true)], args := [d1, d2] }
  | _ => none }
def classesRedefinesRow : OpenClaim := { program := "ytbojdflgjpjbiaagreat", sum := "67d7526a26b9f218eba660bdf3c84f4e21024f6f1e39adb57ee478a642d5b354", func := "skerry/skerrylaw09.ClassesRedefines", spec := "classesRedefines", unfollowed := true, recurses := true, loops := true, apart := false }
def ClassesRedefinesSaid : Prop := classesRedefinesRow.holds Tryz.pinned (OpenSpec.ofChange classesRedefinesSpec)

/-- ITS FALSE NEIGHBOUR: 'it returns false'. Refute it at one input. -/
def classesRedefinesWrong : ChangeSpec := { name := "classesRedefines", fn := fun _ => fun
  | [d1, d2] => { results := [.lit (.bool false)], args := [d1, d2] }
  | _ => none }
def ClassesRedefinesWrongFalsely : Prop := classesRedefinesRow.holds Tryz.pinned (OpenSpec.ofChange classesRedefinesWrong)

/-- 'skerrylaw09.ClassesAgain': WHATEVER THE INPUT: true; the input reads as it did. -/
def classesAgainSpec : ChangeSpec := { name := "classesAgain", fn := fun _ => fun
  | [d1, d2, d3] => { results := [.lit (.bool true)], args := [d1, d2, d3] }
  | _ => none }
def classesAgainRow : OpenClaim := { program := "ytbojdflgjpjbiaagreat", sum := "67d7526a26b9f218eba660bdf3c84f4e21024f6f1e39adb57ee478a642d5b354", func := "skerry/skerrylaw09.ClassesAgain", spec := "classesAgain", unfollowed := true, recurses := true, loops := true, apart := false }
def ClassesAgainSaid : Prop := classesAgainRow.holds Tryz.pinned (OpenSpec.ofChange classesAgainSpec)

/-- ITS FALSE NEIGHBOUR: 'it returns false'. Refute it at one input. -/
def classesAgainWrong : ChangeSpec := { name := "classesAgain", fn := fun _ => fun
  | [d1, d2, d3] => { results := [.lit (.bool false)], args := [d1, d2, d3] }
  | _ => none }
def ClassesAgainWrongFalsely : Prop := classesAgainRow.holds Tryz.pinned (OpenSpec.ofChange classesAgainWrong)

/-- 'skerrylaw09.ClassesMigrated': WHATEVER THE INPUT: true; the input reads as it did. -/
def classesMigratedSpec : ChangeSpec := { name := "classesMigrated", fn := fun _ => fun
  | [d] => { results := [.lit (.bool true)], args := [d] }
  | _ => none }
def classesMigratedRow : OpenClaim := { program := "ytbojdflgjpjbiaagreat", sum := "67d7526a26b9f218eba660bdf3c84f4e21024f6f1e39adb57ee478a642d5b354", func := "skerry/skerrylaw09.ClassesMigrated", spec := "classesMigrated", unfollowed := true, recurses := true, loops := true, apart := false }
def ClassesMigratedSaid : Prop := classesMigratedRow.holds Tryz.pinned (OpenSpec.ofChange classesMigratedSpec)

/-- ITS FALSE NEIGHBOUR: 'it returns false'. Refute it at one input. -/
def classesMigratedWrong : ChangeSpec := { name := "classesMigrated", fn := fun _ => fun
  | [d] => { results := [.lit (.bool false)], args := [d] }
  | _ => none }
def ClassesMigratedWrongFalsely : Prop := classesMigratedRow.holds Tryz.pinned (OpenSpec.ofChange classesMigratedWrong)

/-- 'skerrylaw09.ClassesTwice': WHATEVER THE INPUT: true; the input reads as it did. -/
def classesTwiceSpec : ChangeSpec := { name := "classesTwice", fn := fun _ => fun
  | [d1, d2] => { results := [.lit (.bool true)], args := [d1, d2] }
  | _ => none }
def classesTwiceRow : OpenClaim := { program := "ytbojdflgjpjbiaagreat", sum := "67d7526a26b9f218eba660bdf3c84f4e21024f6f1e39adb57ee478a642d5b354", func := "skerry/skerrylaw09.ClassesTwice", spec := "classesTwice", unfollowed := true, recurses := true, loops := true, apart := false }
def ClassesTwiceSaid : Prop := classesTwiceRow.holds Tryz.pinned (OpenSpec.ofChange classesTwiceSpec)

/-- ITS FALSE NEIGHBOUR: 'it returns false'. Refute it at one input. -/
def classesTwiceWrong : ChangeSpec := { name := "classesTwice", fn := fun _ => fun
  | [d1, d2] => { results := [.lit (.bool false)], args := [d1, d2] }
  | _ => none }
def ClassesTwiceWrongFalsely : Prop := classesTwiceRow.holds Tryz.pinned (OpenSpec.ofChange classesTwiceWrong)

/-- 'skerrylaw09.ClassesMigrates': WHATEVER THE INPUT: true; the input reads as it did. -/
def classesMigratesSpec : ChangeSpec := { name := "classesMigrates", fn := fun _ => fun
  | [d1, d2] => { results := [.lit (.bool true)], args := [d1, d2] }
  | _ => none }
def classesMigratesRow : OpenClaim := { program := "ytbojdflgjpjbiaagreat", sum := "67d7526a26b9f218eba660bdf3c84f4e21024f6f1e39adb57ee478a642d5b354", func := "skerry/skerrylaw09.ClassesMigrates", spec := "classesMigrates", unfollowed := true, recurses := true, loops := true, apart := false }
def ClassesMigratesSaid : Prop := classesMigratesRow.holds Tryz.pinned (OpenSpec.ofChange classesMigratesSpec)

/-- ITS FALSE NEIGHBOUR: 'it returns false'. Refute it at one input. -/
def classesMigratesWrong : ChangeSpec := { name := "classesMigrates", fn := fun _ => fun
  | [d1, d2] => { results := [.lit (.bool false)], args := [d1, d2] }
  | _ => none }
def ClassesMigratesWrongFalsely : Prop := classesMigratesRow.holds Tryz.pinned (OpenSpec.ofChange classesMigratesWrong)

/- THE SECOND FORM. 'bulk': how many values and letters a reading holds, each counted each time it is reached (what is shared counts as often as it is met; a slice's spare places count too). A statement '..UptoSaid' is the law's where the arguments, and the package variables that the reading takes, are together of bulk at most 1048576: NARROWER than '..Said'. Prove '..Said' where nothing that the law and all that it calls make is longer than what came in: it says more and counts as full. Else prove '..UptoSaid'. A law counts once. -/
mutual
def uptoBulk {H : Type} : DataW H → Nat
  | .lit (.string bytes) => bytes.length + 1
  | .lit _ => 1
  | .nil => 1
  | .ptr d => uptoBulk d + 1
  | .slice elems spare => uptoBulkAll elems + uptoBulkAll spare + 1
  | .agg parts => uptoBulkAll parts + 1
  | .iface _ d => uptoBulk d + 1
  | .map entries => uptoBulkEntries entries + 1
  | .held _ => 1
def uptoBulkAll {H : Type} : List (DataW H) → Nat
  | [] => 0
  | d :: r => uptoBulk d + uptoBulkAll r
def uptoBulkEntries {H : Type} : List (Lit × DataW H) → Nat
  | [] => 0
  | x :: r => uptoBulkEntry x + uptoBulkEntries r
def uptoBulkEntry {H : Type} : Lit × DataW H → Nat
  | (.string bytes, d) => bytes.length + uptoBulk d + 1
  | (_, d) => uptoBulk d + 1
 end
def uptoSmall : (H : Type) → List (DataW H) → Bool := fun _ ds => decide (uptoBulkAll ds ≤ 1048576)
def OpenSpec.upto (s : _root_.Go.ChangeSpec) : _root_.Go.OpenSpec := { _root_.Go.OpenSpec.ofChange s with cond := some uptoSmall }

/-- 'skerrylaw09.ClassesPlans', WHERE WHAT IT READS IS OF BULK AT MOST 1048576: true; the input reads as it did. -/
def classesPlansUptoRow : OpenClaim := { program := "ytbojdflgjpjbiaagreat", sum := "67d7526a26b9f218eba660bdf3c84f4e21024f6f1e39adb57ee478a642d5b354", func := "skerry/skerrylaw09.ClassesPlans", spec := "classesPlans", unfollowed := true, recurses := true, loops := true, apart := false, narrowed := true }
def ClassesPlansUptoSaid : Prop := classesPlansUptoRow.holds Tryz.pinned (OpenSpec.upto classesPlansSpec)

/-- 'skerrylaw09.ClassesInherited', WHERE WHAT IT READS IS OF BULK AT MOST 1048576: true; the input reads as it did. -/
def classesInheritedUptoRow : OpenClaim := { program := "ytbojdflgjpjbiaagreat", sum := "67d7526a26b9f218eba660bdf3c84f4e21024f6f1e39adb57ee478a642d5b354", func := "skerry/skerrylaw09.ClassesInherited", spec := "classesInherited", unfollowed := true, recurses := true, loops := true, apart := false, narrowed := true }
def ClassesInheritedUptoSaid : Prop := classesInheritedUptoRow.holds Tryz.pinned (OpenSpec.upto classesInheritedSpec)

/-- 'skerrylaw09.ClassesDeclared', WHERE WHAT IT READS IS OF BULK AT MOST 1048576: true; the input reads as it did. -/
def classesDeclaredUptoRow : OpenClaim := { program := "ytbojdflgjpjbiaagreat", sum := "67d7526a26b9f218eba660bdf3c84f4e21024f6f1e39adb57ee478a642d5b354", func := "skerry/skerrylaw09.ClassesDeclared", spec := "classesDeclared", unfollowed := true, recurses := true, loops := true, apart := false, narrowed := true }
def ClassesDeclaredUptoSaid : Prop := classesDeclaredUptoRow.holds Tryz.pinned (OpenSpec.upto classesDeclaredSpec)

/-- 'skerrylaw09.ClassesFilled', WHERE WHAT IT READS IS OF BULK AT MOST 1048576: true; the input reads as it did. -/
def classesFilledUptoRow : OpenClaim := { program := "ytbojdflgjpjbiaagreat", sum := "67d7526a26b9f218eba660bdf3c84f4e21024f6f1e39adb57ee478a642d5b354", func := "skerry/skerrylaw09.ClassesFilled", spec := "classesFilled", unfollowed := true, recurses := true, loops := true, apart := false, narrowed := true }
def ClassesFilledUptoSaid : Prop := classesFilledUptoRow.holds Tryz.pinned (OpenSpec.upto classesFilledSpec)

/-- 'skerrylaw09.ClassesFinds', WHERE WHAT IT READS IS OF BULK AT MOST 1048576: true; the input reads as it did. -/
def classesFindsUptoRow : OpenClaim := { program := "ytbojdflgjpjbiaagreat", sum := "67d7526a26b9f218eba660bdf3c84f4e21024f6f1e39adb57ee478a642d5b354", func := "skerry/skerrylaw09.ClassesFinds", spec := "classesFinds", unfollowed := true, recurses := true, loops := true, apart := false, narrowed := true }
def ClassesFindsUptoSaid : Prop := classesFindsUptoRow.holds Tryz.pinned (OpenSpec.upto classesFindsSpec)

/-- 'skerrylaw09.ClassesShares', WHERE WHAT IT READS IS OF BULK AT MOST 1048576: true; the input reads as it did. -/
def classesSharesUptoRow : OpenClaim := { program := "ytbojdflgjpjbiaagreat", sum := "67d7526a26b9f218eba660bdf3c84f4e21024f6f1e39adb57ee478a642d5b354", func := "skerry/skerrylaw09.ClassesShares", spec := "classesShares", unfollowed := true, recurses := true, loops := true, apart := false, narrowed := true }
def ClassesSharesUptoSaid : Prop := classesSharesUptoRow.holds Tryz.pinned (OpenSpec.upto classesSharesSpec)

/-- 'skerrylaw09.ClassesChecks', WHERE WHAT IT READS IS OF BULK AT MOST 1048576: true; the input reads as it did. -/
def classesChecksUptoRow : OpenClaim := { program := "ytbojdflgjpjbiaagreat", sum := "67d7526a26b9f218eba660bdf3c84f4e21024f6f1e39adb57ee478a642d5b354", func := "skerry/skerrylaw09.ClassesChecks", spec := "classesChecks", unfollowed := true, recurses := true, loops := true, apart := false, narrowed := true }
def ClassesChecksUptoSaid : Prop := classesChecksUptoRow.holds Tryz.pinned (OpenSpec.upto classesChecksSpec)

/-- 'skerrylaw09.ClassesRedefines', WHERE WHAT IT READS IS OF BULK AT MOST 1048576: true; the input reads as it did. -/
def classesRedefinesUptoRow : OpenClaim := { program := "ytbojdflgjpjbiaagreat", sum := "67d7526a26b9f218eba660bdf3c84f4e21024f6f1e39adb57ee478a642d5b354", func := "skerry/skerrylaw09.ClassesRedefines", spec := "classesRedefines", unfollowed := true, recurses := true, loops := true, apart := false, narrowed := true }
def ClassesRedefinesUptoSaid : Prop := classesRedefinesUptoRow.holds Tryz.pinned (OpenSpec.upto classesRedefinesSpec)

/-- 'skerrylaw09.ClassesAgain', WHERE WHAT IT READS IS OF BULK AT MOST 1048576: true; the input reads as it did. -/
def classesAgainUptoRow : OpenClaim := { program := "ytbojdflgjpjbiaagreat", sum := "67d7526a26b9f218eba660bdf3c84f4e21024f6f1e39adb57ee478a642d5b354", func := "skerry/skerrylaw09.ClassesAgain", spec := "classesAgain", unfollowed := true, recurses := true, loops := true, apart := false, narrowed := true }
def ClassesAgainUptoSaid : Prop := classesAgainUptoRow.holds Tryz.pinned (OpenSpec.upto classesAgainSpec)

/-- 'skerrylaw09.ClassesMigrated', WHERE WHAT IT READS IS OF BULK AT MOST 1048576: true; the input reads as it did. -/
def classesMigratedUptoRow : OpenClaim := { program := "ytbojdflgjpjbiaagreat", sum := "67d7526a26b9f218eba660bdf3c84f4e21024f6f1e39adb57ee478a642d5b354", func := "skerry/skerrylaw09.ClassesMigrated", spec := "classesMigrated", unfollowed := true, recurses := true, loops := true, apart := false, narrowed := true }
def ClassesMigratedUptoSaid : Prop := classesMigratedUptoRow.holds Tryz.pinned (OpenSpec.upto classesMigratedSpec)

/-- 'skerrylaw09.ClassesTwice', WHERE WHAT IT READS IS OF BULK AT MOST 1048576: true; the input reads as it did. -/
def classesTwiceUptoRow : OpenClaim := { program := "ytbojdflgjpjbiaagreat", sum := "67d7526a26b9f218eba660bdf3c84f4e21024f6f1e39adb57ee478a642d5b354", func := "skerry/skerrylaw09.ClassesTwice", spec := "classesTwice", unfollowed := true, recurses := true, loops := true, apart := false, narrowed := true }
def ClassesTwiceUptoSaid : Prop := classesTwiceUptoRow.holds Tryz.pinned (OpenSpec.upto classesTwiceSpec)

/-- 'skerrylaw09.ClassesMigrates', WHERE WHAT IT READS IS OF BULK AT MOST 1048576: true; the input reads as it did. -/
def classesMigratesUptoRow : OpenClaim := { program := "ytbojdflgjpjbiaagreat", sum := "67d7526a26b9f218eba660bdf3c84f4e21024f6f1e39adb57ee478a642d5b354", func := "skerry/skerrylaw09.ClassesMigrates", spec := "classesMigrates", unfollowed := true, recurses := true, loops := true, apart := false, narrowed := true }
def ClassesMigratesUptoSaid : Prop := classesMigratesUptoRow.holds Tryz.pinned (OpenSpec.upto classesMigratesSpec)

end Rows
end Go.Proofs.YtbojdflgjpjbiaaGreat
