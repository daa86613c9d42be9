/-
  No cell of these rows narrows 'for every input' (looked for: loops, veiled, ifaces, maps, wideKeys, modest, calm, conditions, laid).
  DERIVED. THE GIVEN ROWS OF THIS SEAT. 6 by the template 'for every input the law returns true; each argument reads behind the call as it read before'; 0 by the template 'total and deterministic' (their statements: YtalmhnimmhgloaaTotals.lean).
  GIVEN WITH THE SEED: the statements are not yours to turn. If you find one false, say at which input.
  Laid BY PROGRAM, IN A SANDBOX (cutbox-rows.mjs): the forced cells as the released guide's own fill.sh prints them over the translation 9f7fe58486a11752… (all of the seat's roots in one cut). By AI agents, Wed Nov 11 2026. No macro, syntax, notation, axiom, sorry.
-/
import Derived.Test.YtalmhnimmhgloaaChecked
import GoSem.Claim
import GoSem.ClaimJoined
import GoSem.ClaimMapViews
import Derived.JoinedTies
import Derived.KernelRfl
namespace Go.Proofs.Ytalmhnimmhgloaa
/- THE CELL 'sum', in the pinned program and in every row, IS THE sha256 OF THE DUMP (.gsa) THAT YtalmhnimmhgloaaProg.lean LOADS. Nothing in Lean hashes anything: it is a label: what it is worth is what the hold of that sum in a sandbox is worth. -/
noncomputable def Try.pinned : Pinned := { name := "ytalmhnimmhgloaa", sum := "9f7fe58486a11752b67183e1705fee218357edfaf268a9465ca09d981d8f74ec", checked := Try.checked }
namespace Rows
def none {H : Type} : Left H := { results := [], args := [] }

/-- 'trimtablaw32.BudgetRooms': WHATEVER THE INPUT: true; the input reads as it did. -/
def budgetRoomsSpec : ChangeSpec := { name := "budgetRooms", fn := fun _ => fun
  | [d1, d2, d3] => { results := [.lit (.bool true)], args := [d1, d2, d3] }
  | _ => none }
def budgetRoomsRow : OpenClaim := { program := "ytalmhnimmhgloaa", sum := "9f7fe58486a11752b67183e1705fee218357edfaf268a9465ca09d981d8f74ec", func := "trimtab/trimtablaw32.BudgetRooms", spec := "budgetRooms", inPlace := ["math/bits.Add64"], named := ["math/bits.divideError", "math/bits.overflowError"], apart := false }
def BudgetRoomsSaid : Prop := budgetRoomsRow.holds Try.pinned (OpenSpec.ofChange budgetRoomsSpec)

/-- ITS FALSE NEIGHBOUR: 'it returns false'. Refute it at one input. -/
def budgetRoomsWrong : ChangeSpec := { name := "budgetRooms", fn := fun _ => fun
  | [d1, d2, d3] => { results := [.lit (.bool false)], args := [d1, d2, d3] }
  | _ => none }
def BudgetRoomsWrongFalsely : Prop := budgetRoomsRow.holds Try.pinned (OpenSpec.ofChange budgetRoomsWrong)

/-- 'trimtablaw22.PolicyAllows': WHATEVER THE INPUT: true; the input reads as it did. -/
def policyAllowsSpec : ChangeSpec := { name := "policyAllows", fn := fun _ => fun
  | [d1, d2, d3, d4, d5] => { results := [.lit (.bool true)], args := [d1, d2, d3, d4, d5] }
  | _ => none }
def policyAllowsRow : OpenClaim := { program := "ytalmhnimmhgloaa", sum := "9f7fe58486a11752b67183e1705fee218357edfaf268a9465ca09d981d8f74ec", func := "trimtab/trimtablaw22.PolicyAllows", spec := "policyAllows", inPlace := ["math/bits.Add64"], named := ["math/bits.divideError", "math/bits.overflowError"], apart := false }
def PolicyAllowsSaid : Prop := policyAllowsRow.holds Try.pinned (OpenSpec.ofChange policyAllowsSpec)

/-- ITS FALSE NEIGHBOUR: 'it returns false'. Refute it at one input. -/
def policyAllowsWrong : ChangeSpec := { name := "policyAllows", fn := fun _ => fun
  | [d1, d2, d3, d4, d5] => { results := [.lit (.bool false)], args := [d1, d2, d3, d4, d5] }
  | _ => none }
def PolicyAllowsWrongFalsely : Prop := policyAllowsRow.holds Try.pinned (OpenSpec.ofChange policyAllowsWrong)

/-- 'trimtablaw39.ChartGrows': WHATEVER THE INPUT: true; the input reads as it did. -/
def chartGrowsSpec : ChangeSpec := { name := "chartGrows", fn := fun _ => fun
  | [d1, d2, d3, d4] => { results := [.lit (.bool true)], args := [d1, d2, d3, d4] }
  | _ => none }
def chartGrowsRow : OpenClaim := { program := "ytalmhnimmhgloaa", sum := "9f7fe58486a11752b67183e1705fee218357edfaf268a9465ca09d981d8f74ec", func := "trimtab/trimtablaw39.ChartGrows", spec := "chartGrows", inPlace := ["math/bits.Add64"], unfollowed := true, recurses := true, named := ["math/bits.divideError", "math/bits.overflowError"], apart := false }
def ChartGrowsSaid : Prop := chartGrowsRow.holds Try.pinned (OpenSpec.ofChange chartGrowsSpec)

/-- ITS FALSE NEIGHBOUR: 'it returns false'. Refute it at one input. -/
def chartGrowsWrong : ChangeSpec := { name := "chartGrows", fn := fun _ => fun
  | [d1, d2, d3, d4] => { results := [.lit (.bool false)], args := [d1, d2, d3, d4] }
  | _ => none }
def ChartGrowsWrongFalsely : Prop := chartGrowsRow.holds Try.pinned (OpenSpec.ofChange chartGrowsWrong)

/-- 'trimtablaw22.PolicyKeeps': WHATEVER THE INPUT: true; the input reads as it did. -/
def policyKeepsSpec : ChangeSpec := { name := "policyKeeps", fn := fun _ => fun
  | [d1, d2] => { results := [.lit (.bool true)], args := [d1, d2] }
  | _ => none }
def policyKeepsRow : OpenClaim := { program := "ytalmhnimmhgloaa", sum := "9f7fe58486a11752b67183e1705fee218357edfaf268a9465ca09d981d8f74ec", func := "trimtab/trimtablaw22.PolicyKeeps", spec := "policyKeeps", inPlace := ["math/bits.Add64"], unfollowed := true, recurses := true, named := ["math/bits.divideError", "math/bits.overflowError"], apart := false }
def PolicyKeepsSaid : Prop := policyKeepsRow.holds Try.pinned (OpenSpec.ofChange policyKeepsSpec)

/-- ITS FALSE NEIGHBOUR: 'it returns false'. Refute it at one input. -/
def policyKeepsWrong : ChangeSpec := { name := "policyKeeps", fn := fun _ => fun
  | [d1, d2] => { results := [.lit (.bool false)], args := [d1, d2] }
  | _ => none }
def PolicyKeepsWrongFalsely : Prop := policyKeepsRow.holds Try.pinned (OpenSpec.ofChange policyKeepsWrong)

/-- 'trimtablaw42.TrendReaches': WHATEVER THE INPUT: true; the input reads as it did. -/
def trendReachesSpec : ChangeSpec := { name := "trendReaches", fn := fun _ => fun
  | [d1, d2] => { results := [.lit (.bool true)], args := [d1, d2] }
  | _ => none }
def trendReachesRow : OpenClaim := { program := "ytalmhnimmhgloaa", sum := "9f7fe58486a11752b67183e1705fee218357edfaf268a9465ca09d981d8f74ec", func := "trimtab/trimtablaw42.TrendReaches", spec := "trendReaches", inPlace := ["math/bits.Add64"], unfollowed := true, recurses := true, named := ["math/bits.divideError", "math/bits.overflowError"], apart := false }
def TrendReachesSaid : Prop := trendReachesRow.holds Try.pinned (OpenSpec.ofChange trendReachesSpec)

/-- ITS FALSE NEIGHBOUR: 'it returns false'. Refute it at one input. -/
def trendReachesWrong : ChangeSpec := { name := "trendReaches", fn := fun _ => fun
  | [d1, d2] => { results := [.lit (.bool false)], args := [d1, d2] }
  | _ => none }
def TrendReachesWrongFalsely : Prop := trendReachesRow.holds Try.pinned (OpenSpec.ofChange trendReachesWrong)

/-- 'trimtablaw42.TrendLines': WHATEVER THE INPUT: true; the input reads as it did. -/
def trendLinesSpec : ChangeSpec := { name := "trendLines", fn := fun _ => fun
  | [d1, d2, d3, d4, d5] => { results := [.lit (.bool true)], args := [d1, d2, d3, d4, d5] }
  | _ => none }
def trendLinesRow : OpenClaim := { program := "ytalmhnimmhgloaa", sum := "9f7fe58486a11752b67183e1705fee218357edfaf268a9465ca09d981d8f74ec", func := "trimtab/trimtablaw42.TrendLines", spec := "trendLines", inPlace := ["math/bits.Add64"], unfollowed := true, recurses := true, named := ["math/bits.divideError", "math/bits.overflowError"], apart := false }
def TrendLinesSaid : Prop := trendLinesRow.holds Try.pinned (OpenSpec.ofChange trendLinesSpec)

/-- ITS FALSE NEIGHBOUR: 'it returns false'. Refute it at one input. -/
def trendLinesWrong : ChangeSpec := { name := "trendLines", fn := fun _ => fun
  | [d1, d2, d3, d4, d5] => { results := [.lit (.bool false)], args := [d1, d2, d3, d4, d5] }
  | _ => none }
def TrendLinesWrongFalsely : Prop := trendLinesRow.holds Try.pinned (OpenSpec.ofChange trendLinesWrong)

/- THE SECOND FORM. 'bulk': how many values and letters a reading holds, each counted each time it is reached (what is shared counts as often as it is met; a slice's spare places count too). A statement '..UptoSaid' is the law's where the arguments, and the package variables that the reading takes, are together of bulk at most 1048576: NARROWER than '..Said'. Prove '..Said' where nothing that the law and all that it calls make is longer than what came in: it says more and counts as full. Else prove '..UptoSaid'. A law counts once. -/
mutual
def uptoBulk {H : Type} : DataW H → Nat
  | .lit (.string bytes) => bytes.length + 1
  | .lit _ => 1
  | .nil => 1
  | .ptr d => uptoBulk d + 1
  | .slice elems spare => uptoBulkAll elems + uptoBulkAll spare + 1
  | .agg parts => uptoBulkAll parts + 1
  | .iface _ d => uptoBulk d + 1
  | .map entries => uptoBulkEntries entries + 1
  | .held _ => 1
def uptoBulkAll {H : Type} : List (DataW H) → Nat
  | [] => 0
  | d :: r => uptoBulk d + uptoBulkAll r
def uptoBulkEntries {H : Type} : List (Lit × DataW H) → Nat
  | [] => 0
  | x :: r => uptoBulkEntry x + uptoBulkEntries r
def uptoBulkEntry {H : Type} : Lit × DataW H → Nat
  | (.string bytes, d) => bytes.length + uptoBulk d + 1
  | (_, d) => uptoBulk d + 1
 end
def uptoSmall : (H : Type) → List (DataW H) → Bool := fun _ ds => decide (uptoBulkAll ds ≤ 1048576)
def OpenSpec.upto (s : _root_.Go.ChangeSpec) : _root_.Go.OpenSpec := { _root_.Go.OpenSpec.ofChange s with cond := some uptoSmall }

/-- 'trimtablaw32.BudgetRooms', WHERE WHAT IT READS IS OF BULK AT MOST 1048576: true; the input reads as it did. -/
def budgetRoomsUptoRow : OpenClaim := { program := "ytalmhnimmhgloaa", sum := "9f7fe58486a11752b67183e1705fee218357edfaf268a9465ca09d981d8f74ec", func := "trimtab/trimtablaw32.BudgetRooms", spec := "budgetRooms", inPlace := ["math/bits.Add64"], named := ["math/bits.divideError", "math/bits.overflowError"], apart := false, narrowed := true }
def BudgetRoomsUptoSaid : Prop := budgetRoomsUptoRow.holds Try.pinned (OpenSpec.upto budgetRoomsSpec)

/-- 'trimtablaw22.PolicyAllows', WHERE WHAT IT READS IS OF BULK AT MOST 1048576: true; the input reads as it did. -/
def policyAllowsUptoRow : OpenClaim := { program := "ytalmhnimmhgloaa", sum := "9f7fe58486a11752b67183e1705fee218357edfaf268a9465ca09d981d8f74ec", func := "trimtab/trimtablaw22.PolicyAllows", spec := "policyAllows", inPlace := ["math/bits.Add64"], named := ["math/bits.divideError", "math/bits.overflowError"], apart := false, narrowed := true }
def PolicyAllowsUptoSaid : Prop := policyAllowsUptoRow.holds Try.pinned (OpenSpec.upto policyAllowsSpec)

/-- 'trimtablaw39.ChartGrows', WHERE WHAT IT READS IS OF BULK AT MOST 1048576: true; the input reads as it did. -/
def chartGrowsUptoRow : OpenClaim := { program := "ytalmhnimmhgloaa", sum := "9f7fe58486a11752b67183e1705fee218357edfaf268a9465ca09d981d8f74ec", func := "trimtab/trimtablaw39.ChartGrows", spec := "chartGrows", inPlace := ["math/bits.Add64"], unfollowed := true, recurses := true, named := ["math/bits.divideError", "math/bits.overflowError"], apart := false, narrowed := true }
def ChartGrowsUptoSaid : Prop := chartGrowsUptoRow.holds Try.pinned (OpenSpec.upto chartGrowsSpec)

/-- 'trimtablaw22.PolicyKeeps', WHERE WHAT IT READS IS OF BULK AT MOST 1048576: true; the input reads as it did. -/
def policyKeepsUptoRow : OpenClaim := { program := "ytalmhnimmhgloaa", sum := "9f7fe58486a11752b67183e1705fee218357edfaf268a9465ca09d981d8f74ec", func := "trimtab/trimtablaw22.PolicyKeeps", spec := "policyKeeps", inPlace := ["math/bits.Add64"], unfollowed := true, recurses := true, named := ["math/bits.divideError", "math/bits.overflowError"], apart := false, narrowed := true }
def PolicyKeepsUptoSaid : Prop := policyKeepsUptoRow.holds Try.pinned (OpenSpec.upto policyKeepsSpec)

/-- 'trimtablaw42.TrendReaches', WHERE WHAT IT READS IS OF BULK AT MOST 1048576: true; the input reads as it did. -/
def trendReachesUptoRow : OpenClaim := { program := "ytalmhnimmhgloaa", sum := "9f7fe58486a11752b67183e1705fee218357edfaf268a9465ca09d981d8f74ec", func := "trimtab/trimtablaw42.TrendReaches", spec := "trendReaches", inPlace := ["math/bits.Add64"], unfollowed := true, recurses := true, named := ["math/bits.divideError", "math/bits.overflowError"], apart := false, narrowed := true }
def TrendReachesUptoSaid : Prop := trendReachesUptoRow.holds Try.pinned (OpenSpec.upto trendReachesSpec)

/-- 'trimtablaw42.TrendLines', WHERE WHAT IT READS IS OF BULK AT MOST 1048576: true; the input reads as it did. -/
def trendLinesUptoRow : OpenClaim := { program := "ytalmhnimmhgloaa", sum := "9f7fe58486a11752b67183e1705fee218357edfaf268a9465ca09d981d8f74ec", func := "trimtab/trimtablaw42.TrendLines", spec := "trendLines", inPlace := ["math/bits.Add64"], unfollowed := true, recurses := true, named := ["math/bits.divideError", "math/bits.overflowError"], apart := false, narrowed := true }
def TrendLinesUptoSaid : Prop := trendLinesUptoRow.holds Try.pinned (OpenSpec.upto trendLinesSpec)

end Rows
end Go.Proofs.Ytalmhnimmhgloaa
