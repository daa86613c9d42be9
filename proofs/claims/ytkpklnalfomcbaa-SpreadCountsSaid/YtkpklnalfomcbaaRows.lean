/-
  No cell of these rows narrows 'for every input' (looked for: loops, veiled, ifaces, maps, wideKeys, modest, calm, conditions, laid).
  DERIVED. THE GIVEN ROWS OF THIS SEAT. 3 by the template 'for every input the law returns true; each argument reads behind the call as it read before'; 0 by the template 'total and deterministic' (their statements: YtkpklnalfomcbaaTotals.lean).
  GIVEN WITH THE SEED: the statements are not yours to turn. If you find one false, say at which input.
  Laid BY PROGRAM, IN A SANDBOX (cutbox-rows.mjs): the forced cells as the released guide's own fill.sh prints them over the translation 25fcb2d7ef4a6a73… (all of the seat's roots in one cut). By AI agents, Wed Nov 11 2026. No macro, syntax, notation, axiom, sorry.
-/
import Derived.Test.YtkpklnalfomcbaaChecked
import GoSem.Claim
import GoSem.ClaimJoined
import GoSem.ClaimMapViews
import Derived.JoinedTies
import Derived.KernelRfl
namespace Go.Proofs.Ytkpklnalfomcbaa
/- THE CELL 'sum', in the pinned program and in every row, IS THE sha256 OF THE DUMP (.gsa) THAT YtkpklnalfomcbaaProg.lean LOADS. Nothing in Lean hashes anything: it is a label: what it is worth is what the hold of that sum in a sandbox is worth. -/
noncomputable def Try.pinned : Pinned := { name := "ytkpklnalfomcbaa", sum := "25fcb2d7ef4a6a73bc6effb5a6372b606b75533a38c0a501f050351c28e32a61", checked := Try.checked }
namespace Rows
def none {H : Type} : Left H := { results := [], args := [] }

/-- 'trimtablaw33.SpreadHolds': WHATEVER THE INPUT: true; the input reads as it did. -/
def spreadHoldsSpec : ChangeSpec := { name := "spreadHolds", fn := fun _ => fun
  | [d1, d2, d3] => { results := [.lit (.bool true)], args := [d1, d2, d3] }
  | _ => none }
def spreadHoldsRow : OpenClaim := { program := "ytkpklnalfomcbaa", sum := "25fcb2d7ef4a6a73bc6effb5a6372b606b75533a38c0a501f050351c28e32a61", func := "trimtab/trimtablaw33.SpreadHolds", spec := "spreadHolds", unfollowed := true, recurses := true, apart := false }
def SpreadHoldsSaid : Prop := spreadHoldsRow.holds Try.pinned (OpenSpec.ofChange spreadHoldsSpec)

/-- ITS FALSE NEIGHBOUR: 'it returns false'. Refute it at one input. -/
def spreadHoldsWrong : ChangeSpec := { name := "spreadHolds", fn := fun _ => fun
  | [d1, d2, d3] => { results := [.lit (.bool false)], args := [d1, d2, d3] }
  | _ => none }
def SpreadHoldsWrongFalsely : Prop := spreadHoldsRow.holds Try.pinned (OpenSpec.ofChange spreadHoldsWrong)

/-- 'trimtablaw33.SpreadPicks': WHATEVER THE INPUT: true; the input reads as it did. -/
def spreadPicksSpec : ChangeSpec := { name := "spreadPicks", fn := fun _ => fun
  | [d1, d2, d3] => { results := [.lit (.bool true)], args := [d1, d2, d3] }
  | _ => none }
def spreadPicksRow : OpenClaim := { program := "ytkpklnalfomcbaa", sum := "25fcb2d7ef4a6a73bc6effb5a6372b606b75533a38c0a501f050351c28e32a61", func := "trimtab/trimtablaw33.SpreadPicks", spec := "spreadPicks", unfollowed := true, recurses := true, apart := false }
def SpreadPicksSaid : Prop := spreadPicksRow.holds Try.pinned (OpenSpec.ofChange spreadPicksSpec)

/-- ITS FALSE NEIGHBOUR: 'it returns false'. Refute it at one input. -/
def spreadPicksWrong : ChangeSpec := { name := "spreadPicks", fn := fun _ => fun
  | [d1, d2, d3] => { results := [.lit (.bool false)], args := [d1, d2, d3] }
  | _ => none }
def SpreadPicksWrongFalsely : Prop := spreadPicksRow.holds Try.pinned (OpenSpec.ofChange spreadPicksWrong)

/-- 'trimtablaw33.SpreadCounts': WHATEVER THE INPUT: true; the input reads as it did. -/
def spreadCountsSpec : ChangeSpec := { name := "spreadCounts", fn := fun _ => fun
  | [d1, d2, d3] => { results := [.lit (.bool true)], args := [d1, d2, d3] }
  | _ => none }
def spreadCountsRow : OpenClaim := { program := "ytkpklnalfomcbaa", sum := "25fcb2d7ef4a6a73bc6effb5a6372b606b75533a38c0a501f050351c28e32a61", func := "trimtab/trimtablaw33.SpreadCounts", spec := "spreadCounts", unfollowed := true, recurses := true, apart := false }
def SpreadCountsSaid : Prop := spreadCountsRow.holds Try.pinned (OpenSpec.ofChange spreadCountsSpec)

/-- ITS FALSE NEIGHBOUR: 'it returns false'. Refute it at one input. -/
def spreadCountsWrong : ChangeSpec := { name := "spreadCounts", fn := fun _ => fun
  | [d1, d2, d3] => { results := [.lit (.bool false)], args := [d1, d2, d3] }
  | _ => none }
def SpreadCountsWrongFalsely : Prop := spreadCountsRow.holds Try.pinned (OpenSpec.ofChange spreadCountsWrong)

/- THE SECOND FORM. 'bulk': how many values and letters a reading holds, each counted each time it is reached (what is shared counts as often as it is met; a slice's spare places count too). A statement '..UptoSaid' is the law's where the arguments, and the package variables that the reading takes, are together of bulk at most 1048576: NARROWER than '..Said'. Prove '..Said' where nothing that the law and all that it calls make is longer than what came in: it says more and counts as full. Else prove '..UptoSaid'. A law counts once. -/
mutual
def uptoBulk {H : Type} : DataW H → Nat
  | .lit (.string bytes) => bytes.length + 1
  | .lit _ => 1
  | .nil => 1
  | .ptr d => uptoBulk d + 1
  | .slice elems spare => uptoBulkAll elems + uptoBulkAll spare + 1
  | .agg parts => uptoBulkAll parts + 1
  | .iface _ d => uptoBulk d + 1
  | .map entries => uptoBulkEntries entries + 1
  | .held _ => 1
def uptoBulkAll {H : Type} : List (DataW H) → Nat
  | [] => 0
  | d :: r => uptoBulk d + uptoBulkAll r
def uptoBulkEntries {H : Type} : List (Lit × DataW H) → Nat
  | [] => 0
  | x :: r => uptoBulkEntry x + uptoBulkEntries r
def uptoBulkEntry {H : Type} : Lit × DataW H → Nat
  | (.string bytes, d) => bytes.length + uptoBulk d + 1
  | (_, d) => uptoBulk d + 1
 end
def uptoSmall : (H : Type) → List (DataW H) → Bool := fun _ ds => decide (uptoBulkAll ds ≤ 1048576)
def OpenSpec.upto (s : _root_.Go.ChangeSpec) : _root_.Go.OpenSpec := { _root_.Go.OpenSpec.ofChange s with cond := some uptoSmall }

/-- 'trimtablaw33.SpreadHolds', WHERE WHAT IT READS IS OF BULK AT MOST 1048576: true; the input reads as it did. -/
def spreadHoldsUptoRow : OpenClaim := { program := "ytkpklnalfomcbaa", sum := "25fcb2d7ef4a6a73bc6effb5a6372b606b75533a38c0a501f050351c28e32a61", func := "trimtab/trimtablaw33.SpreadHolds", spec := "spreadHolds", unfollowed := true, recurses := true, apart := false, narrowed := true }
def SpreadHoldsUptoSaid : Prop := spreadHoldsUptoRow.holds Try.pinned (OpenSpec.upto spreadHoldsSpec)

/-- 'trimtablaw33.SpreadPicks', WHERE WHAT IT READS IS OF BULK AT MOST 1048576: true; the input reads as it did. -/
def spreadPicksUptoRow : OpenClaim := { program := "ytkpklnalfomcbaa", sum := "25fcb2d7ef4a6a73bc6effb5a6372b606b75533a38c0a501f050351c28e32a61", func := "trimtab/trimtablaw33.SpreadPicks", spec := "spreadPicks", unfollowed := true, recurses := true, apart := false, narrowed := true }
def SpreadPicksUptoSaid : Prop := spreadPicksUptoRow.holds Try.pinned (OpenSpec.upto spreadPicksSpec)

/-- 'trimtablaw33.SpreadCounts', WHERE WHAT IT READS IS OF BULK AT MOST 1048576: true; the input reads as it did. -/
def spreadCountsUptoRow : OpenClaim := { program := "ytkpklnalfomcbaa", sum := "25fcb2d7ef4a6a73bc6effb5a6372b606b75533a38c0a501f050351c28e32a61", func := "trimtab/trimtablaw33.SpreadCounts", spec := "spreadCounts", unfollowed := true, recurses := true, apart := false, narrowed := true }
def SpreadCountsUptoSaid : Prop := spreadCountsUptoRow.holds Try.pinned (OpenSpec.upto spreadCountsSpec)

end Rows
end Go.Proofs.Ytkpklnalfomcbaa
