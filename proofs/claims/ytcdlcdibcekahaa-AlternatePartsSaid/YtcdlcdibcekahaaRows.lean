/-
  No cell of these rows narrows 'for every input' (looked for: loops, veiled, ifaces, maps, wideKeys, modest, calm, conditions, laid).
  DERIVED. THE GIVEN ROWS OF THIS SEAT. 11 by the template 'for every input the law returns true; each argument reads behind the call as it read before'; 0 by the template 'total and deterministic' (their statements: YtcdlcdibcekahaaTotals.lean).
  GIVEN WITH THE SEED: the statements are not yours to turn. If you find one false, say at which input.
  Laid BY PROGRAM, IN A SANDBOX (cutbox-rows.mjs): the forced cells as the released guide's own fill.sh prints them over the translation 3aa7c4be5b16fd9a… (all of the seat's roots in one cut). By AI agents, Wed Nov 11 2026. No macro, syntax, notation, axiom, sorry.
-/
import Derived.Test.YtcdlcdibcekahaaChecked
import GoSem.Claim
import GoSem.ClaimJoined
import GoSem.ClaimMapViews
import Derived.JoinedTies
import Derived.KernelRfl
namespace Go.Proofs.Ytcdlcdibcekahaa
/- THE CELL 'sum', in the pinned program and in every row, IS THE sha256 OF THE DUMP (.gsa) THAT YtcdlcdibcekahaaProg.lean LOADS. Nothing in Lean hashes anything: it is a label: what it is worth is what the hold of that sum in a sandbox is worth. -/
noncomputable def Try.pinned : Pinned := { name := "ytcdlcdibcekahaa", sum := "3aa7c4be5b16fd9a730541ddcdf3909a7596a1b0a09fed747221d22e7b327378", checked := Try.checked }
namespace Rows
def none {H : Type} : Left H := { results := [], args := [] }

/-- 'dasdlaw26.AlternateDescribes': WHATEVER THE INPUT: true; the input reads as it did. -/
def alternateDescribesSpec : ChangeSpec := { name := "alternateDescribes", fn := fun _ => fun
  | [d1, d2, d3, d4, d5, d6] => { results := [.lit (.bool true)], args := [d1, d2, d3, d4, d5, d6] }
  | _ => none }
def alternateDescribesRow : OpenClaim := { program := "ytcdlcdibcekahaa", sum := "3aa7c4be5b16fd9a730541ddcdf3909a7596a1b0a09fed747221d22e7b327378", func := "dasd/dasdlaw26.AlternateDescribes", spec := "alternateDescribes", inPlace := ["internal/abi.NoEscape", "internal/bytealg.MakeNoZero"], apart := false }
def AlternateDescribesSaid : Prop := alternateDescribesRow.holds Try.pinned (OpenSpec.ofChange alternateDescribesSpec)

/-- ITS FALSE NEIGHBOUR: 'it returns false'. Refute it at one input. -/
def alternateDescribesWrong : ChangeSpec := { name := "alternateDescribes", fn := fun _ => fun
  | [d1, d2, d3, d4, d5, d6] => { results := [.lit (.bool false)], args := [d1, d2, d3, d4, d5, d6] }
  | _ => none }
def AlternateDescribesWrongFalsely : Prop := alternateDescribesRow.holds Try.pinned (OpenSpec.ofChange alternateDescribesWrong)

/-- 'dasdlaw26.AlternateFits': WHATEVER THE INPUT: true; the input reads as it did. -/
def alternateFitsSpec : ChangeSpec := { name := "alternateFits", fn := fun _ => fun
  | [d1, d2, d3, d4, d5] => { results := [.lit (.bool true)], args := [d1, d2, d3, d4, d5] }
  | _ => none }
def alternateFitsRow : OpenClaim := { program := "ytcdlcdibcekahaa", sum := "3aa7c4be5b16fd9a730541ddcdf3909a7596a1b0a09fed747221d22e7b327378", func := "dasd/dasdlaw26.AlternateFits", spec := "alternateFits", inPlace := ["internal/abi.NoEscape", "internal/bytealg.MakeNoZero"], apart := false }
def AlternateFitsSaid : Prop := alternateFitsRow.holds Try.pinned (OpenSpec.ofChange alternateFitsSpec)

/-- ITS FALSE NEIGHBOUR: 'it returns false'. Refute it at one input. -/
def alternateFitsWrong : ChangeSpec := { name := "alternateFits", fn := fun _ => fun
  | [d1, d2, d3, d4, d5] => { results := [.lit (.bool false)], args := [d1, d2, d3, d4, d5] }
  | _ => none }
def AlternateFitsWrongFalsely : Prop := alternateFitsRow.holds Try.pinned (OpenSpec.ofChange alternateFitsWrong)

/-- 'dasdlaw26.AlternateParts': WHATEVER THE INPUT: true; the input reads as it did. -/
def alternatePartsSpec : ChangeSpec := { name := "alternateParts", fn := fun _ => fun
  | [d1, d2, d3, d4] => { results := [.lit (.bool true)], args := [d1, d2, d3, d4] }
  | _ => none }
def alternatePartsRow : OpenClaim := { program := "ytcdlcdibcekahaa", sum := "3aa7c4be5b16fd9a730541ddcdf3909a7596a1b0a09fed747221d22e7b327378", func := "dasd/dasdlaw26.AlternateParts", spec := "alternateParts", inPlace := ["internal/abi.NoEscape", "internal/bytealg.MakeNoZero"], apart := false }
def AlternatePartsSaid : Prop := alternatePartsRow.holds Try.pinned (OpenSpec.ofChange alternatePartsSpec)

/-- ITS FALSE NEIGHBOUR: 'it returns false'. Refute it at one input. -/
def alternatePartsWrong : ChangeSpec := { name := "alternateParts", fn := fun _ => fun
  | [d1, d2, d3, d4] => { results := [.lit (.bool false)], args := [d1, d2, d3, d4] }
  | _ => none }
def AlternatePartsWrongFalsely : Prop := alternatePartsRow.holds Try.pinned (OpenSpec.ofChange alternatePartsWrong)

/-- 'dasdlaw26.AlternateInverts': WHATEVER THE INPUT: true; the input reads as it did. -/
def alternateInvertsSpec : ChangeSpec := { name := "alternateInverts", fn := fun _ => fun
  | [d1, d2, d3] => { results := [.lit (.bool true)], args := [d1, d2, d3] }
  | _ => none }
def alternateInvertsRow : OpenClaim := { program := "ytcdlcdibcekahaa", sum := "3aa7c4be5b16fd9a730541ddcdf3909a7596a1b0a09fed747221d22e7b327378", func := "dasd/dasdlaw26.AlternateInverts", spec := "alternateInverts", inPlace := ["internal/abi.NoEscape", "internal/bytealg.MakeNoZero"], apart := false }
def AlternateInvertsSaid : Prop := alternateInvertsRow.holds Try.pinned (OpenSpec.ofChange alternateInvertsSpec)

/-- ITS FALSE NEIGHBOUR: 'it returns false'. Refute it at one input. -/
def alternateInvertsWrong : ChangeSpec := { name := "alternateInverts", fn := fun _ => fun
  | [d1, d2, d3] => { results := [.lit (.bool false)], args := [d1, d2, d3] }
  | _ => none }
def AlternateInvertsWrongFalsely : Prop := alternateInvertsRow.holds Try.pinned (OpenSpec.ofChange alternateInvertsWrong)

/-- 'dasdlaw26.AlternateSpans': WHATEVER THE INPUT: true; the input reads as it did. -/
def alternateSpansSpec : ChangeSpec := { name := "alternateSpans", fn := fun _ => fun
  | [d1, d2, d3] => { results := [.lit (.bool true)], args := [d1, d2, d3] }
  | _ => none }
def alternateSpansRow : OpenClaim := { program := "ytcdlcdibcekahaa", sum := "3aa7c4be5b16fd9a730541ddcdf3909a7596a1b0a09fed747221d22e7b327378", func := "dasd/dasdlaw26.AlternateSpans", spec := "alternateSpans", inPlace := ["internal/abi.NoEscape", "internal/bytealg.MakeNoZero"], apart := false }
def AlternateSpansSaid : Prop := alternateSpansRow.holds Try.pinned (OpenSpec.ofChange alternateSpansSpec)

/-- ITS FALSE NEIGHBOUR: 'it returns false'. Refute it at one input. -/
def alternateSpansWrong : ChangeSpec := { name := "alternateSpans", fn := fun _ => fun
  | [d1, d2, d3] => { results := [.lit (.bool false)], args := [d1, d2, d3] }
  | _ => none }
def AlternateSpansWrongFalsely : Prop := alternateSpansRow.holds Try.pinned (OpenSpec.ofChange alternateSpansWrong)

/-- 'dasdlaw27.UpgradeDifferences': WHATEVER THE INPUT: true; the input reads as it did. -/
def upgradeDifferencesSpec : ChangeSpec := { name := "upgradeDifferences", fn := fun _ => fun
  | [d1, d2, d3, d4, d5] => { results := [.lit (.bool true)], args := [d1, d2, d3, d4, d5] }
  | _ => none }
def upgradeDifferencesRow : OpenClaim := { program := "ytcdlcdibcekahaa", sum := "3aa7c4be5b16fd9a730541ddcdf3909a7596a1b0a09fed747221d22e7b327378", func := "dasd/dasdlaw27.UpgradeDifferences", spec := "upgradeDifferences", inPlace := ["internal/abi.NoEscape", "internal/bytealg.MakeNoZero"], unfollowed := true, recurses := true, apart := false }
def UpgradeDifferencesSaid : Prop := upgradeDifferencesRow.holds Try.pinned (OpenSpec.ofChange upgradeDifferencesSpec)

/-- ITS FALSE NEIGHBOUR: 'it returns false'. Refute it at one input. -/
def upgradeDifferencesWrong : ChangeSpec := { name := "upgradeDifferences", fn := fun _ => fun
  | [d1, d2, d3, d4, d5] => { results := [.lit (.bool false)], args := [d1, d2, d3, d4, d5] }
  | _ => none }
def UpgradeDifferencesWrongFalsely : Prop := upgradeDifferencesRow.holds Try.pinned (OpenSpec.ofChange upgradeDifferencesWrong)

/-- 'dasdlaw27.UpgradePlans': WHATEVER THE INPUT: true; the input reads as it did. -/
def upgradePlansSpec : ChangeSpec := { name := "upgradePlans", fn := fun _ => fun
  | [d1, d2, d3, d4] => { results := [.lit (.bool true)], args := [d1, d2, d3, d4] }
  | _ => none }
def upgradePlansRow : OpenClaim := { program := "ytcdlcdibcekahaa", sum := "3aa7c4be5b16fd9a730541ddcdf3909a7596a1b0a09fed747221d22e7b327378", func := "dasd/dasdlaw27.UpgradePlans", spec := "upgradePlans", inPlace := ["internal/abi.NoEscape", "internal/bytealg.MakeNoZero"], unfollowed := true, recurses := true, apart := false }
def UpgradePlansSaid : Prop := upgradePlansRow.holds Try.pinned (OpenSpec.ofChange upgradePlansSpec)

/-- ITS FALSE NEIGHBOUR: 'it returns false'. Refute it at one input. -/
def upgradePlansWrong : ChangeSpec := { name := "upgradePlans", fn := fun _ => fun
  | [d1, d2, d3, d4] => { results := [.lit (.bool false)], args := [d1, d2, d3, d4] }
  | _ => none }
def UpgradePlansWrongFalsely : Prop := upgradePlansRow.holds Try.pinned (OpenSpec.ofChange upgradePlansWrong)

/-- 'dasdlaw27.UpgradeBusy': WHATEVER THE INPUT: true; the input reads as it did. -/
def upgradeBusySpec : ChangeSpec := { name := "upgradeBusy", fn := fun _ => fun
  | [d1, d2, d3, d4, d5] => { results := [.lit (.bool true)], args := [d1, d2, d3, d4, d5] }
  | _ => none }
def upgradeBusyRow : OpenClaim := { program := "ytcdlcdibcekahaa", sum := "3aa7c4be5b16fd9a730541ddcdf3909a7596a1b0a09fed747221d22e7b327378", func := "dasd/dasdlaw27.UpgradeBusy", spec := "upgradeBusy", inPlace := ["internal/abi.NoEscape", "internal/bytealg.MakeNoZero"], unfollowed := true, recurses := true, apart := false }
def UpgradeBusySaid : Prop := upgradeBusyRow.holds Try.pinned (OpenSpec.ofChange upgradeBusySpec)

/-- ITS FALSE NEIGHBOUR: 'it returns false'. Refute it at one input. -/
def upgradeBusyWrong : ChangeSpec := { name := "upgradeBusy", fn := fun _ => fun
  | [d1, d2, d3, d4, d5] => { results := [.lit (.bool false)], args := [d1, d2, d3, d4, d5] }
  | _ => none }
def UpgradeBusyWrongFalsely : Prop := upgradeBusyRow.holds Try.pinned (OpenSpec.ofChange upgradeBusyWrong)

/-- 'dasdlaw27.UpgradePaths': WHATEVER THE INPUT: true; the input reads as it did. -/
def upgradePathsSpec : ChangeSpec := { name := "upgradePaths", fn := fun _ => fun
  | [d1, d2, d3, d4] => { results := [.lit (.bool true)], args := [d1, d2, d3, d4] }
  | _ => none }
def upgradePathsRow : OpenClaim := { program := "ytcdlcdibcekahaa", sum := "3aa7c4be5b16fd9a730541ddcdf3909a7596a1b0a09fed747221d22e7b327378", func := "dasd/dasdlaw27.UpgradePaths", spec := "upgradePaths", inPlace := ["internal/abi.NoEscape", "internal/bytealg.MakeNoZero"], unfollowed := true, recurses := true, apart := false }
def UpgradePathsSaid : Prop := upgradePathsRow.holds Try.pinned (OpenSpec.ofChange upgradePathsSpec)

/-- ITS FALSE NEIGHBOUR: 'it returns false'. Refute it at one input. -/
def upgradePathsWrong : ChangeSpec := { name := "upgradePaths", fn := fun _ => fun
  | [d1, d2, d3, d4] => { results := [.lit (.bool false)], args := [d1, d2, d3, d4] }
  | _ => none }
def UpgradePathsWrongFalsely : Prop := upgradePathsRow.holds Try.pinned (OpenSpec.ofChange upgradePathsWrong)

/-- 'dasdlaw26.AlternateRecords': WHATEVER THE INPUT: true; the input reads as it did. -/
def alternateRecordsSpec : ChangeSpec := { name := "alternateRecords", fn := fun _ => fun
  | [d1, d2] => { results := [.lit (.bool true)], args := [d1, d2] }
  | _ => none }
def alternateRecordsRow : OpenClaim := { program := "ytcdlcdibcekahaa", sum := "3aa7c4be5b16fd9a730541ddcdf3909a7596a1b0a09fed747221d22e7b327378", func := "dasd/dasdlaw26.AlternateRecords", spec := "alternateRecords", inPlace := ["internal/abi.NoEscape", "internal/bytealg.MakeNoZero"], unfollowed := true, recurses := true, apart := false }
def AlternateRecordsSaid : Prop := alternateRecordsRow.holds Try.pinned (OpenSpec.ofChange alternateRecordsSpec)

/-- ITS FALSE NEIGHBOUR: 'it returns false'. Refute it at one input. -/
def alternateRecordsWrong : ChangeSpec := { name := "alternateRecords", fn := fun _ => fun
  | [d1, d2] => { results := [.lit (.bool false)], args := [d1, d2] }
  | _ => none }
def AlternateRecordsWrongFalsely : Prop := alternateRecordsRow.holds Try.pinned (OpenSpec.ofChange alternateRecordsWrong)

/-- 'dasdlaw26.AlternateOrder': WHATEVER THE INPUT: true; the input reads as it did. -/
def alternateOrderSpec : ChangeSpec := { name := "alternateOrder", fn := fun _ => fun
  | [d1, d2] => { results := [.lit (.bool true)], args := [d1, d2] }
  | _ => none }
def alternateOrderRow : OpenClaim := { program := "ytcdlcdibcekahaa", sum := "3aa7c4be5b16fd9a730541ddcdf3909a7596a1b0a09fed747221d22e7b327378", func := "dasd/dasdlaw26.AlternateOrder", spec := "alternateOrder", inPlace := ["internal/abi.NoEscape", "internal/bytealg.MakeNoZero"], unfollowed := true, recurses := true, apart := false }
def AlternateOrderSaid : Prop := alternateOrderRow.holds Try.pinned (OpenSpec.ofChange alternateOrderSpec)

/-- ITS FALSE NEIGHBOUR: 'it returns false'. Refute it at one input. -/
def alternateOrderWrong : ChangeSpec := { name := "alternateOrder", fn := fun _ => fun
  | [d1, d2] => { results := [.lit (.bool false)], args := [d1, d2] }
  | _ => none }
def AlternateOrderWrongFalsely : Prop := alternateOrderRow.holds Try.pinned (OpenSpec.ofChange alternateOrderWrong)

/- THE SECOND FORM. 'bulk': how many values and letters a reading holds, each counted each time it is reached (what is shared counts as often as it is met; a slice's spare places count too). A statement '..UptoSaid' is the law's where the arguments, and the package variables that the reading takes, are together of bulk at most 1048576: NARROWER than '..Said'. Prove '..Said' where nothing that the law and all that it calls make is longer than what came in: it says more and counts as full. Else prove '..UptoSaid'. A law counts once. -/
mutual
def uptoBulk {H : Type} : DataW H → Nat
  | .lit (.string bytes) => bytes.length + 1
  | .lit _ => 1
  | .nil => 1
  | .ptr d => uptoBulk d + 1
  | .slice elems spare => uptoBulkAll elems + uptoBulkAll spare + 1
  | .agg parts => uptoBulkAll parts + 1
  | .iface _ d => uptoBulk d + 1
  | .map entries => uptoBulkEntries entries + 1
  | .held _ => 1
def uptoBulkAll {H : Type} : List (DataW H) → Nat
  | [] => 0
  | d :: r => uptoBulk d + uptoBulkAll r
def uptoBulkEntries {H : Type} : List (Lit × DataW H) → Nat
  | [] => 0
  | x :: r => uptoBulkEntry x + uptoBulkEntries r
def uptoBulkEntry {H : Type} : Lit × DataW H → Nat
  | (.string bytes, d) => bytes.length + uptoBulk d + 1
  | (_, d) => uptoBulk d + 1
 end
def uptoSmall : (H : Type) → List (DataW H) → Bool := fun _ ds => decide (uptoBulkAll ds ≤ 1048576)
def OpenSpec.upto (s : _root_.Go.ChangeSpec) : _root_.Go.OpenSpec := { _root_.Go.OpenSpec.ofChange s with cond := some uptoSmall }

/-- 'dasdlaw26.AlternateDescribes', WHERE WHAT IT READS IS OF BULK AT MOST 1048576: true; the input reads as it did. -/
def alternateDescribesUptoRow : OpenClaim := { program := "ytcdlcdibcekahaa", sum := "3aa7c4be5b16fd9a730541ddcdf3909a7596a1b0a09fed747221d22e7b327378", func := "dasd/dasdlaw26.AlternateDescribes", spec := "alternateDescribes", inPlace := ["internal/abi.NoEscape", "internal/bytealg.MakeNoZero"], apart := false, narrowed := true }
def AlternateDescribesUptoSaid : Prop := alternateDescribesUptoRow.holds Try.pinned (OpenSpec.upto alternateDescribesSpec)

/-- 'dasdlaw26.AlternateFits', WHERE WHAT IT READS IS OF BULK AT MOST 1048576: true; the input reads as it did. -/
def alternateFitsUptoRow : OpenClaim := { program := "ytcdlcdibcekahaa", sum := "3aa7c4be5b16fd9a730541ddcdf3909a7596a1b0a09fed747221d22e7b327378", func := "dasd/dasdlaw26.AlternateFits", spec := "alternateFits", inPlace := ["internal/abi.NoEscape", "internal/bytealg.MakeNoZero"], apart := false, narrowed := true }
def AlternateFitsUptoSaid : Prop := alternateFitsUptoRow.holds Try.pinned (OpenSpec.upto alternateFitsSpec)

/-- 'dasdlaw26.AlternateParts', WHERE WHAT IT READS IS OF BULK AT MOST 1048576: true; the input reads as it did. -/
def alternatePartsUptoRow : OpenClaim := { program := "ytcdlcdibcekahaa", sum := "3aa7c4be5b16fd9a730541ddcdf3909a7596a1b0a09fed747221d22e7b327378", func := "dasd/dasdlaw26.AlternateParts", spec := "alternateParts", inPlace := ["internal/abi.NoEscape", "internal/bytealg.MakeNoZero"], apart := false, narrowed := true }
def AlternatePartsUptoSaid : Prop := alternatePartsUptoRow.holds Try.pinned (OpenSpec.upto alternatePartsSpec)

/-- 'dasdlaw26.AlternateInverts', WHERE WHAT IT READS IS OF BULK AT MOST 1048576: true; the input reads as it did. -/
def alternateInvertsUptoRow : OpenClaim := { program := "ytcdlcdibcekahaa", sum := "3aa7c4be5b16fd9a730541ddcdf3909a7596a1b0a09fed747221d22e7b327378", func := "dasd/dasdlaw26.AlternateInverts", spec := "alternateInverts", inPlace := ["internal/abi.NoEscape", "internal/bytealg.MakeNoZero"], apart := false, narrowed := true }
def AlternateInvertsUptoSaid : Prop := alternateInvertsUptoRow.holds Try.pinned (OpenSpec.upto alternateInvertsSpec)

/-- 'dasdlaw26.AlternateSpans', WHERE WHAT IT READS IS OF BULK AT MOST 1048576: true; the input reads as it did. -/
def alternateSpansUptoRow : OpenClaim := { program := "ytcdlcdibcekahaa", sum := "3aa7c4be5b16fd9a730541ddcdf3909a7596a1b0a09fed747221d22e7b327378", func := "dasd/dasdlaw26.AlternateSpans", spec := "alternateSpans", inPlace := ["internal/abi.NoEscape", "internal/bytealg.MakeNoZero"], apart := false, narrowed := true }
def AlternateSpansUptoSaid : Prop := alternateSpansUptoRow.holds Try.pinned (OpenSpec.upto alternateSpansSpec)

/-- 'dasdlaw27.UpgradeDifferences', WHERE WHAT IT READS IS OF BULK AT MOST 1048576: true; the input reads as it did. -/
def upgradeDifferencesUptoRow : OpenClaim := { program := "ytcdlcdibcekahaa", sum := "3aa7c4be5b16fd9a730541ddcdf3909a7596a1b0a09fed747221d22e7b327378", func := "dasd/dasdlaw27.UpgradeDifferences", spec := "upgradeDifferences", inPlace := ["internal/abi.NoEscape", "internal/bytealg.MakeNoZero"], unfollowed := true, recurses := true, apart := false, narrowed := true }
def UpgradeDifferencesUptoSaid : Prop := upgradeDifferencesUptoRow.holds Try.pinned (OpenSpec.upto upgradeDifferencesSpec)

/-- 'dasdlaw27.UpgradePlans', WHERE WHAT IT READS IS OF BULK AT MOST 1048576: true; the input reads as it did. -/
def upgradePlansUptoRow : OpenClaim := { program := "ytcdlcdibcekahaa", sum := "3aa7c4be5b16fd9a730541ddcdf3909a7596a1b0a09fed747221d22e7b327378", func := "dasd/dasdlaw27.UpgradePlans", spec := "upgradePlans", inPlace := ["internal/abi.NoEscape", "internal/bytealg.MakeNoZero"], unfollowed := true, recurses := true, apart := false, narrowed := true }
def UpgradePlansUptoSaid : Prop := upgradePlansUptoRow.holds Try.pinned (OpenSpec.upto upgradePlansSpec)

/-- 'dasdlaw27.UpgradeBusy', WHERE WHAT IT READS IS OF BULK AT MOST 1048576: true; the input reads as it did. -/
def upgradeBusyUptoRow : OpenClaim := { program := "ytcdlcdibcekahaa", sum := "3aa7c4be5b16fd9a730541ddcdf3909a7596a1b0a09fed747221d22e7b327378", func := "dasd/dasdlaw27.UpgradeBusy", spec := "upgradeBusy", inPlace := ["internal/abi.NoEscape", "internal/bytealg.MakeNoZero"], unfollowed := true, recurses := true, apart := false, narrowed := true }
def UpgradeBusyUptoSaid : Prop := upgradeBusyUptoRow.holds Try.pinned (OpenSpec.upto upgradeBusySpec)

/-- 'dasdlaw27.UpgradePaths', WHERE WHAT IT READS IS OF BULK AT MOST 1048576: true; the input reads as it did. -/
def upgradePathsUptoRow : OpenClaim := { program := "ytcdlcdibcekahaa", sum := "3aa7c4be5b16fd9a730541ddcdf3909a7596a1b0a09fed747221d22e7b327378", func := "dasd/dasdlaw27.UpgradePaths", spec := "upgradePaths", inPlace := ["internal/abi.NoEscape", "internal/bytealg.MakeNoZero"], unfollowed := true, recurses := true, apart := false, narrowed := true }
def UpgradePathsUptoSaid : Prop := upgradePathsUptoRow.holds Try.pinned (OpenSpec.upto upgradePathsSpec)

/-- 'dasdlaw26.AlternateRecords', WHERE WHAT IT READS IS OF BULK AT MOST 1048576: true; the input reads as it did. -/
def alternateRecordsUptoRow : OpenClaim := { program := "ytcdlcdibcekahaa", sum := "3aa7c4be5b16fd9a730541ddcdf3909a7596a1b0a09fed747221d22e7b327378", func := "dasd/dasdlaw26.AlternateRecords", spec := "alternateRecords", inPlace := ["internal/abi.NoEscape", "internal/bytealg.MakeNoZero"], unfollowed := true, recurses := true, apart := false, narrowed := true }
def AlternateRecordsUptoSaid : Prop := alternateRecordsUptoRow.holds Try.pinned (OpenSpec.upto alternateRecordsSpec)

/-- 'dasdlaw26.AlternateOrder', WHERE WHAT IT READS IS OF BULK AT MOST 1048576: true; the input reads as it did. -/
def alternateOrderUptoRow : OpenClaim := { program := "ytcdlcdibcekahaa", sum := "3aa7c4be5b16fd9a730541ddcdf3909a7596a1b0a09fed747221d22e7b327378", func := "dasd/dasdlaw26.AlternateOrder", spec := "alternateOrder", inPlace := ["internal/abi.NoEscape", "internal/bytealg.MakeNoZero"], unfollowed := true, recurses := true, apart := false, narrowed := true }
def AlternateOrderUptoSaid : Prop := alternateOrderUptoRow.holds Try.pinned (OpenSpec.upto alternateOrderSpec)

end Rows
end Go.Proofs.Ytcdlcdibcekahaa
