/-
  No cell of these rows narrows 'for every input' (looked for: loops, veiled, ifaces, maps, wideKeys, modest, calm, conditions, laid).
  DERIVED. THE GIVEN ROWS OF THIS SEAT. 12 by the template 'for every input the law returns true; each argument reads behind the call as it read before'; 0 by the template 'total and deterministic' (their statements: YtnjjkcnokkhlkaaTotals.lean).
  GIVEN WITH THE SEED: the statements are not yours to turn. If you find one false, say at which input.
  Laid BY PROGRAM, IN A SANDBOX (cutbox-rows.mjs): the forced cells as the released guide's own fill.sh prints them over the translation f1a1431ae4520a7d… (all of the seat's roots in one cut). By AI agents, Wed Nov 11 2026. No macro, syntax, notation, axiom, sorry.
-/
import Derived.Test.YtnjjkcnokkhlkaaChecked
import GoSem.Claim
import GoSem.ClaimJoined
import GoSem.ClaimMapViews
import Derived.JoinedTies
import Derived.KernelRfl
namespace Go.Proofs.Ytnjjkcnokkhlkaa
/- THE CELL 'sum', in the pinned program and in every row, IS THE sha256 OF THE DUMP (.gsa) THAT YtnjjkcnokkhlkaaProg.lean LOADS. Nothing in Lean hashes anything: it is a label: what it is worth is what the hold of that sum in a sandbox is worth. -/
noncomputable def Try.pinned : Pinned := { name := "ytnjjkcnokkhlkaa", sum := "f1a1431ae4520a7d47120aba8dbd408fed342995934813138824b53d1f673b12", checked := Try.checked }
namespace Rows
def none {H : Type} : Left H := { results := [], args := [] }

/-- 'arrayarchivelaw02.CalendarNumbers': WHATEVER THE INPUT: true; the input reads as it did. -/
def calendarNumbersSpec : ChangeSpec := { name := "calendarNumbers", fn := fun _ => fun
  | [d1, d2, d3] => { results := [.lit (.bool true)], args := [d1, d2, d3] }
  | _ => none }
def calendarNumbersRow : OpenClaim := { program := "ytnjjkcnokkhlkaa", sum := "f1a1431ae4520a7d47120aba8dbd408fed342995934813138824b53d1f673b12", func := "arrayarchive/arrayarchivelaw02.CalendarNumbers", spec := "calendarNumbers", unfollowed := true, recurses := true, apart := false }
def CalendarNumbersSaid : Prop := calendarNumbersRow.holds Try.pinned (OpenSpec.ofChange calendarNumbersSpec)

/-- ITS FALSE NEIGHBOUR: 'it returns false'. Refute it at one input. -/
def calendarNumbersWrong : ChangeSpec := { name := "calendarNumbers", fn := fun _ => fun
  | [d1, d2, d3] => { results := [.lit (.bool false)], args := [d1, d2, d3] }
  | _ => none }
def CalendarNumbersWrongFalsely : Prop := calendarNumbersRow.holds Try.pinned (OpenSpec.ofChange calendarNumbersWrong)

/-- 'arrayarchivelaw02.CalendarCycles': WHATEVER THE INPUT: true; the input reads as it did. -/
def calendarCyclesSpec : ChangeSpec := { name := "calendarCycles", fn := fun _ => fun
  | [d1, d2] => { results := [.lit (.bool true)], args := [d1, d2] }
  | _ => none }
def calendarCyclesRow : OpenClaim := { program := "ytnjjkcnokkhlkaa", sum := "f1a1431ae4520a7d47120aba8dbd408fed342995934813138824b53d1f673b12", func := "arrayarchive/arrayarchivelaw02.CalendarCycles", spec := "calendarCycles", unfollowed := true, recurses := true, apart := false }
def CalendarCyclesSaid : Prop := calendarCyclesRow.holds Try.pinned (OpenSpec.ofChange calendarCyclesSpec)

/-- ITS FALSE NEIGHBOUR: 'it returns false'. Refute it at one input. -/
def calendarCyclesWrong : ChangeSpec := { name := "calendarCycles", fn := fun _ => fun
  | [d1, d2] => { results := [.lit (.bool false)], args := [d1, d2] }
  | _ => none }
def CalendarCyclesWrongFalsely : Prop := calendarCyclesRow.holds Try.pinned (OpenSpec.ofChange calendarCyclesWrong)

/-- 'arrayarchivelaw02.CalendarCounts': WHATEVER THE INPUT: true; the input reads as it did. -/
def calendarCountsSpec : ChangeSpec := { name := "calendarCounts", fn := fun _ => fun
  | [d1, d2] => { results := [.lit (.bool true)], args := [d1, d2] }
  | _ => none }
def calendarCountsRow : OpenClaim := { program := "ytnjjkcnokkhlkaa", sum := "f1a1431ae4520a7d47120aba8dbd408fed342995934813138824b53d1f673b12", func := "arrayarchive/arrayarchivelaw02.CalendarCounts", spec := "calendarCounts", unfollowed := true, recurses := true, apart := false }
def CalendarCountsSaid : Prop := calendarCountsRow.holds Try.pinned (OpenSpec.ofChange calendarCountsSpec)

/-- ITS FALSE NEIGHBOUR: 'it returns false'. Refute it at one input. -/
def calendarCountsWrong : ChangeSpec := { name := "calendarCounts", fn := fun _ => fun
  | [d1, d2] => { results := [.lit (.bool false)], args := [d1, d2] }
  | _ => none }
def CalendarCountsWrongFalsely : Prop := calendarCountsRow.holds Try.pinned (OpenSpec.ofChange calendarCountsWrong)

/-- 'arrayarchivelaw02.CalendarLosses': WHATEVER THE INPUT: true; the input reads as it did. -/
def calendarLossesSpec : ChangeSpec := { name := "calendarLosses", fn := fun _ => fun
  | [d1, d2] => { results := [.lit (.bool true)], args := [d1, d2] }
  | _ => none }
def calendarLossesRow : OpenClaim := { program := "ytnjjkcnokkhlkaa", sum := "f1a1431ae4520a7d47120aba8dbd408fed342995934813138824b53d1f673b12", func := "arrayarchive/arrayarchivelaw02.CalendarLosses", spec := "calendarLosses", unfollowed := true, recurses := true, apart := false }
def CalendarLossesSaid : Prop := calendarLossesRow.holds Try.pinned (OpenSpec.ofChange calendarLossesSpec)

/-- ITS FALSE NEIGHBOUR: 'it returns false'. Refute it at one input. -/
def calendarLossesWrong : ChangeSpec := { name := "calendarLosses", fn := fun _ => fun
  | [d1, d2] => { results := [.lit (.bool false)], args := [d1, d2] }
  | _ => none }
def CalendarLossesWrongFalsely : Prop := calendarLossesRow.holds Try.pinned (OpenSpec.ofChange calendarLossesWrong)

/-- 'arrayarchivelaw02.CalendarYears': WHATEVER THE INPUT: true; the input reads as it did. -/
def calendarYearsSpec : ChangeSpec := { name := "calendarYears", fn := fun _ => fun
  | [d1, d2] => { results := [.lit (.bool true)], args := [d1, d2] }
  | _ => none }
def calendarYearsRow : OpenClaim := { program := "ytnjjkcnokkhlkaa", sum := "f1a1431ae4520a7d47120aba8dbd408fed342995934813138824b53d1f673b12", func := "arrayarchive/arrayarchivelaw02.CalendarYears", spec := "calendarYears", unfollowed := true, recurses := true, apart := false }
def CalendarYearsSaid : Prop := calendarYearsRow.holds Try.pinned (OpenSpec.ofChange calendarYearsSpec)

/-- ITS FALSE NEIGHBOUR: 'it returns false'. Refute it at one input. -/
def calendarYearsWrong : ChangeSpec := { name := "calendarYears", fn := fun _ => fun
  | [d1, d2] => { results := [.lit (.bool false)], args := [d1, d2] }
  | _ => none }
def CalendarYearsWrongFalsely : Prop := calendarYearsRow.holds Try.pinned (OpenSpec.ofChange calendarYearsWrong)

/-- 'arrayarchivelaw02.CalendarMonths': WHATEVER THE INPUT: true; the input reads as it did. -/
def calendarMonthsSpec : ChangeSpec := { name := "calendarMonths", fn := fun _ => fun
  | [d1, d2, d3] => { results := [.lit (.bool true)], args := [d1, d2, d3] }
  | _ => none }
def calendarMonthsRow : OpenClaim := { program := "ytnjjkcnokkhlkaa", sum := "f1a1431ae4520a7d47120aba8dbd408fed342995934813138824b53d1f673b12", func := "arrayarchive/arrayarchivelaw02.CalendarMonths", spec := "calendarMonths", unfollowed := true, recurses := true, apart := false }
def CalendarMonthsSaid : Prop := calendarMonthsRow.holds Try.pinned (OpenSpec.ofChange calendarMonthsSpec)

/-- ITS FALSE NEIGHBOUR: 'it returns false'. Refute it at one input. -/
def calendarMonthsWrong : ChangeSpec := { name := "calendarMonths", fn := fun _ => fun
  | [d1, d2, d3] => { results := [.lit (.bool false)], args := [d1, d2, d3] }
  | _ => none }
def CalendarMonthsWrongFalsely : Prop := calendarMonthsRow.holds Try.pinned (OpenSpec.ofChange calendarMonthsWrong)

/-- 'arrayarchivelaw02.CalendarSums': WHATEVER THE INPUT: true; the input reads as it did. -/
def calendarSumsSpec : ChangeSpec := { name := "calendarSums", fn := fun _ => fun
  | [d1, d2, d3] => { results := [.lit (.bool true)], args := [d1, d2, d3] }
  | _ => none }
def calendarSumsRow : OpenClaim := { program := "ytnjjkcnokkhlkaa", sum := "f1a1431ae4520a7d47120aba8dbd408fed342995934813138824b53d1f673b12", func := "arrayarchive/arrayarchivelaw02.CalendarSums", spec := "calendarSums", unfollowed := true, recurses := true, apart := false }
def CalendarSumsSaid : Prop := calendarSumsRow.holds Try.pinned (OpenSpec.ofChange calendarSumsSpec)

/-- ITS FALSE NEIGHBOUR: 'it returns false'. Refute it at one input. -/
def calendarSumsWrong : ChangeSpec := { name := "calendarSums", fn := fun _ => fun
  | [d1, d2, d3] => { results := [.lit (.bool false)], args := [d1, d2, d3] }
  | _ => none }
def CalendarSumsWrongFalsely : Prop := calendarSumsRow.holds Try.pinned (OpenSpec.ofChange calendarSumsWrong)

/-- 'arrayarchivelaw02.CalendarNames': WHATEVER THE INPUT: true; the input reads as it did. -/
def calendarNamesSpec : ChangeSpec := { name := "calendarNames", fn := fun _ => fun
  | [d1, d2] => { results := [.lit (.bool true)], args := [d1, d2] }
  | _ => none }
def calendarNamesRow : OpenClaim := { program := "ytnjjkcnokkhlkaa", sum := "f1a1431ae4520a7d47120aba8dbd408fed342995934813138824b53d1f673b12", func := "arrayarchive/arrayarchivelaw02.CalendarNames", spec := "calendarNames", unfollowed := true, recurses := true, apart := false }
def CalendarNamesSaid : Prop := calendarNamesRow.holds Try.pinned (OpenSpec.ofChange calendarNamesSpec)

/-- ITS FALSE NEIGHBOUR: 'it returns false'. Refute it at one input. -/
def calendarNamesWrong : ChangeSpec := { name := "calendarNames", fn := fun _ => fun
  | [d1, d2] => { results := [.lit (.bool false)], args := [d1, d2] }
  | _ => none }
def CalendarNamesWrongFalsely : Prop := calendarNamesRow.holds Try.pinned (OpenSpec.ofChange calendarNamesWrong)

/-- 'arrayarchivelaw02.CalendarMaps': WHATEVER THE INPUT: true; the input reads as it did. -/
def calendarMapsSpec : ChangeSpec := { name := "calendarMaps", fn := fun _ => fun
  | [d] => { results := [.lit (.bool true)], args := [d] }
  | _ => none }
def calendarMapsRow : OpenClaim := { program := "ytnjjkcnokkhlkaa", sum := "f1a1431ae4520a7d47120aba8dbd408fed342995934813138824b53d1f673b12", func := "arrayarchive/arrayarchivelaw02.CalendarMaps", spec := "calendarMaps", unfollowed := true, recurses := true, apart := false }
def CalendarMapsSaid : Prop := calendarMapsRow.holds Try.pinned (OpenSpec.ofChange calendarMapsSpec)

/-- ITS FALSE NEIGHBOUR: 'it returns false'. Refute it at one input. -/
def calendarMapsWrong : ChangeSpec := { name := "calendarMaps", fn := fun _ => fun
  | [d] => { results := [.lit (.bool false)], args := [d] }
  | _ => none }
def CalendarMapsWrongFalsely : Prop := calendarMapsRow.holds Try.pinned (OpenSpec.ofChange calendarMapsWrong)

/-- 'arrayarchivelaw02.CalendarFields': WHATEVER THE INPUT: true; the input reads as it did. -/
def calendarFieldsSpec : ChangeSpec := { name := "calendarFields", fn := fun _ => fun
  | [d1, d2, d3] => { results := [.lit (.bool true)], args := [d1, d2, d3] }
  | _ => none }
def calendarFieldsRow : OpenClaim := { program := "ytnjjkcnokkhlkaa", sum := "f1a1431ae4520a7d47120aba8dbd408fed342995934813138824b53d1f673b12", func := "arrayarchive/arrayarchivelaw02.CalendarFields", spec := "calendarFields", unfollowed := true, recurses := true, apart := false }
def CalendarFieldsSaid : Prop := calendarFieldsRow.holds Try.pinned (OpenSpec.ofChange calendarFieldsSpec)

/-- ITS FALSE NEIGHBOUR: 'it returns false'. Refute it at one input. -/
def calendarFieldsWrong : ChangeSpec := { name := "calendarFields", fn := fun _ => fun
  | [d1, d2, d3] => { results := [.lit (.bool false)], args := [d1, d2, d3] }
  | _ => none }
def CalendarFieldsWrongFalsely : Prop := calendarFieldsRow.holds Try.pinned (OpenSpec.ofChange calendarFieldsWrong)

/-- 'arrayarchivelaw02.CalendarKeys': WHATEVER THE INPUT: true; the input reads as it did. -/
def calendarKeysSpec : ChangeSpec := { name := "calendarKeys", fn := fun _ => fun
  | [d1, d2, d3] => { results := [.lit (.bool true)], args := [d1, d2, d3] }
  | _ => none }
def calendarKeysRow : OpenClaim := { program := "ytnjjkcnokkhlkaa", sum := "f1a1431ae4520a7d47120aba8dbd408fed342995934813138824b53d1f673b12", func := "arrayarchive/arrayarchivelaw02.CalendarKeys", spec := "calendarKeys", unfollowed := true, recurses := true, apart := false }
def CalendarKeysSaid : Prop := calendarKeysRow.holds Try.pinned (OpenSpec.ofChange calendarKeysSpec)

/-- ITS FALSE NEIGHBOUR: 'it returns false'. Refute it at one input. -/
def calendarKeysWrong : ChangeSpec := { name := "calendarKeys", fn := fun _ => fun
  | [d1, d2, d3] => { results := [.lit (.bool false)], args := [d1, d2, d3] }
  | _ => none }
def CalendarKeysWrongFalsely : Prop := calendarKeysRow.holds Try.pinned (OpenSpec.ofChange calendarKeysWrong)

/-- 'arrayarchivelaw02.CalendarGroups': WHATEVER THE INPUT: true; the input reads as it did. -/
def calendarGroupsSpec : ChangeSpec := { name := "calendarGroups", fn := fun _ => fun
  | [d] => { results := [.lit (.bool true)], args := [d] }
  | _ => none }
def calendarGroupsRow : OpenClaim := { program := "ytnjjkcnokkhlkaa", sum := "f1a1431ae4520a7d47120aba8dbd408fed342995934813138824b53d1f673b12", func := "arrayarchive/arrayarchivelaw02.CalendarGroups", spec := "calendarGroups", unfollowed := true, recurses := true, apart := false }
def CalendarGroupsSaid : Prop := calendarGroupsRow.holds Try.pinned (OpenSpec.ofChange calendarGroupsSpec)

/-- ITS FALSE NEIGHBOUR: 'it returns false'. Refute it at one input. -/
def calendarGroupsWrong : ChangeSpec := { name := "calendarGroups", fn := fun _ => fun
  | [d] => { results := [.lit (.bool false)], args := [d] }
  | _ => none }
def CalendarGroupsWrongFalsely : Prop := calendarGroupsRow.holds Try.pinned (OpenSpec.ofChange calendarGroupsWrong)

/- THE SECOND FORM. 'bulk': how many values and letters a reading holds, each counted each time it is reached (what is shared counts as often as it is met; a slice's spare places count too). A statement '..UptoSaid' is the law's where the arguments, and the package variables that the reading takes, are together of bulk at most 1048576: NARROWER than '..Said'. Prove '..Said' where nothing that the law and all that it calls make is longer than what came in: it says more and counts as full. Else prove '..UptoSaid'. A law counts once. -/
mutual
def uptoBulk {H : Type} : DataW H → Nat
  | .lit (.string bytes) => bytes.length + 1
  | .lit _ => 1
  | .nil => 1
  | .ptr d => uptoBulk d + 1
  | .slice elems spare => uptoBulkAll elems + uptoBulkAll spare + 1
  | .agg parts => uptoBulkAll parts + 1
  | .iface _ d => uptoBulk d + 1
  | .map entries => uptoBulkEntries entries + 1
  | .held _ => 1
def uptoBulkAll {H : Type} : List (DataW H) → Nat
  | [] => 0
  | d :: r => uptoBulk d + uptoBulkAll r
def uptoBulkEntries {H : Type} : List (Lit × DataW H) → Nat
  | [] => 0
  | x :: r => uptoBulkEntry x + uptoBulkEntries r
def uptoBulkEntry {H : Type} : Lit × DataW H → Nat
  | (.string bytes, d) => bytes.length + uptoBulk d + 1
  | (_, d) => uptoBulk d + 1
 end
def uptoSmall : (H : Type) → List (DataW H) → Bool := fun _ ds => decide (uptoBulkAll ds ≤ 1048576)
def OpenSpec.upto (s : _root_.Go.ChangeSpec) : _root_.Go.OpenSpec := { _root_.Go.OpenSpec.ofChange s with cond := some uptoSmall }

/-- 'arrayarchivelaw02.CalendarNumbers', WHERE WHAT IT READS IS OF BULK AT MOST 1048576: true; the input reads as it did. -/
def calendarNumbersUptoRow : OpenClaim := { program := "ytnjjkcnokkhlkaa", sum := "f1a1431ae4520a7d47120aba8dbd408fed342995934813138824b53d1f673b12", func := "arrayarchive/arrayarchivelaw02.CalendarNumbers", spec := "calendarNumbers", unfollowed := true, recurses := true, apart := false, narrowed := true }
def CalendarNumbersUptoSaid : Prop := calendarNumbersUptoRow.holds Try.pinned (OpenSpec.upto calendarNumbersSpec)

/-- 'arrayarchivelaw02.CalendarCycles', WHERE WHAT IT READS IS OF BULK AT MOST 1048576: true; the input reads as it did. -/
def calendarCyclesUptoRow : OpenClaim := { program := "ytnjjkcnokkhlkaa", sum := "f1a1431ae4520a7d47120aba8dbd408fed342995934813138824b53d1f673b12", func := "arrayarchive/arrayarchivelaw02.CalendarCycles", spec := "calendarCycles", unfollowed := true, recurses := true, apart := false, narrowed := true }
def CalendarCyclesUptoSaid : Prop := calendarCyclesUptoRow.holds Try.pinned (OpenSpec.upto calendarCyclesSpec)

/-- 'arrayarchivelaw02.CalendarCounts', WHERE WHAT IT READS IS OF BULK AT MOST 1048576: true; the input reads as it did. -/
def calendarCountsUptoRow : OpenClaim := { program := "ytnjjkcnokkhlkaa", sum := "f1a1431ae4520a7d47120aba8dbd408fed342995934813138824b53d1f673b12", func := "arrayarchive/arrayarchivelaw02.CalendarCounts", spec := "calendarCounts", unfollowed := true, recurses := true, apart := false, narrowed := true }
def CalendarCountsUptoSaid : Prop := calendarCountsUptoRow.holds Try.pinned (OpenSpec.upto calendarCountsSpec)

/-- 'arrayarchivelaw02.CalendarLosses', WHERE WHAT IT READS IS OF BULK AT MOST 1048576: true; the input reads as it did. -/
def calendarLossesUptoRow : OpenClaim := { program := "ytnjjkcnokkhlkaa", sum := "f1a1431ae4520a7d47120aba8dbd408fed342995934813138824b53d1f673b12", func := "arrayarchive/arrayarchivelaw02.CalendarLosses", spec := "calendarLosses", unfollowed := true, recurses := true, apart := false, narrowed := true }
def CalendarLossesUptoSaid : Prop := calendarLossesUptoRow.holds Try.pinned (OpenSpec.upto calendarLossesSpec)

/-- 'arrayarchivelaw02.CalendarYears', WHERE WHAT IT READS IS OF BULK AT MOST 1048576: true; the input reads as it did. -/
def calendarYearsUptoRow : OpenClaim := { program := "ytnjjkcnokkhlkaa", sum := "f1a1431ae4520a7d47120aba8dbd408fed342995934813138824b53d1f673b12", func := "arrayarchive/arrayarchivelaw02.CalendarYears", spec := "calendarYears", unfollowed := true, recurses := true, apart := false, narrowed := true }
def CalendarYearsUptoSaid : Prop := calendarYearsUptoRow.holds Try.pinned (OpenSpec.upto calendarYearsSpec)

/-- 'arrayarchivelaw02.CalendarMonths', WHERE WHAT IT READS IS OF BULK AT MOST 1048576: true; the input reads as it did. -/
def calendarMonthsUptoRow : OpenClaim := { program := "ytnjjkcnokkhlkaa", sum := "f1a1431ae4520a7d47120aba8dbd408fed342995934813138824b53d1f673b12", func := "arrayarchive/arrayarchivelaw02.CalendarMonths", spec := "calendarMonths", unfollowed := true, recurses := true, apart := false, narrowed := true }
def CalendarMonthsUptoSaid : Prop := calendarMonthsUptoRow.holds Try.pinned (OpenSpec.upto calendarMonthsSpec)

/-- 'arrayarchivelaw02.CalendarSums', WHERE WHAT IT READS IS OF BULK AT MOST 1048576: true; the input reads as it did. -/
def calendarSumsUptoRow : OpenClaim := { program := "ytnjjkcnokkhlkaa", sum := "f1a1431ae4520a7d47120aba8dbd408fed342995934813138824b53d1f673b12", func := "arrayarchive/arrayarchivelaw02.CalendarSums", spec := "calendarSums", unfollowed := true, recurses := true, apart := false, narrowed := true }
def CalendarSumsUptoSaid : Prop := calendarSumsUptoRow.holds Try.pinned (OpenSpec.upto calendarSumsSpec)

/-- 'arrayarchivelaw02.CalendarNames', WHERE WHAT IT READS IS OF BULK AT MOST 1048576: true; the input reads as it did. -/
def calendarNamesUptoRow : OpenClaim := { program := "ytnjjkcnokkhlkaa", sum := "f1a1431ae4520a7d47120aba8dbd408fed342995934813138824b53d1f673b12", func := "arrayarchive/arrayarchivelaw02.CalendarNames", spec := "calendarNames", unfollowed := true, recurses := true, apart := false, narrowed := true }
def CalendarNamesUptoSaid : Prop := calendarNamesUptoRow.holds Try.pinned (OpenSpec.upto calendarNamesSpec)

/-- 'arrayarchivelaw02.CalendarMaps', WHERE WHAT IT READS IS OF BULK AT MOST 1048576: true; the input reads as it did. -/
def calendarMapsUptoRow : OpenClaim := { program := "ytnjjkcnokkhlkaa", sum := "f1a1431ae4520a7d47120aba8dbd408fed342995934813138824b53d1f673b12", func := "arrayarchive/arrayarchivelaw02.CalendarMaps", spec := "calendarMaps", unfollowed := true, recurses := true, apart := false, narrowed := true }
def CalendarMapsUptoSaid : Prop := calendarMapsUptoRow.holds Try.pinned (OpenSpec.upto calendarMapsSpec)

/-- 'arrayarchivelaw02.CalendarFields', WHERE WHAT IT READS IS OF BULK AT MOST 1048576: true; the input reads as it did. -/
def calendarFieldsUptoRow : OpenClaim := { program := "ytnjjkcnokkhlkaa", sum := "f1a1431ae4520a7d47120aba8dbd408fed342995934813138824b53d1f673b12", func := "arrayarchive/arrayarchivelaw02.CalendarFields", spec := "calendarFields", unfollowed := true, recurses := true, apart := false, narrowed := true }
def CalendarFieldsUptoSaid : Prop := calendarFieldsUptoRow.holds Try.pinned (OpenSpec.upto calendarFieldsSpec)

/-- 'arrayarchivelaw02.CalendarKeys', WHERE WHAT IT READS IS OF BULK AT MOST 1048576: true; the input reads as it did. -/
def calendarKeysUptoRow : OpenClaim := { program := "ytnjjkcnokkhlkaa", sum := "f1a1431ae4520a7d47120aba8dbd408fed342995934813138824b53d1f673b12", func := "arrayarchive/arrayarchivelaw02.CalendarKeys", spec := "calendarKeys", unfollowed := true, recurses := true, apart := false, narrowed := true }
def CalendarKeysUptoSaid : Prop := calendarKeysUptoRow.holds Try.pinned (OpenSpec.upto calendarKeysSpec)

/-- 'arrayarchivelaw02.CalendarGroups', WHERE WHAT IT READS IS OF BULK AT MOST 1048576: true; the input reads as it did. -/
def calendarGroupsUptoRow : OpenClaim := { program := "ytnjjkcnokkhlkaa", sum := "f1a1431ae4520a7d47120aba8dbd408fed342995934813138824b53d1f673b12", func := "arrayarchive/arrayarchivelaw02.CalendarGroups", spec := "calendarGroups", unfollowed := true, recurses := true, apart := false, narrowed := true }
def CalendarGroupsUptoSaid : Prop := calendarGroupsUptoRow.holds Try.pinned (OpenSpec.upto calendarGroupsSpec)

end Rows
end Go.Proofs.Ytnjjkcnokkhlkaa
