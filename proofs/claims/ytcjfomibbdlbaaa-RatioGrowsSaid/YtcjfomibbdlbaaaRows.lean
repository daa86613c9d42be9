/-
  No cell of these rows narrows 'for every input' (looked for: loops, veiled, ifaces, maps, wideKeys, modest, calm, conditions, laid).
  DERIVED. THE GIVEN ROWS OF THIS SEAT. 8 by the template 'for every input the law returns true; each argument reads behind the call as it read before'; 0 by the template 'total and deterministic' (their statements: YtcjfomibbdlbaaaTotals.lean).
  GIVEN WITH THE SEED: the statements are not yours to turn. If you find one false, say at which input.
  Laid BY PROGRAM, IN A SANDBOX (cutbox-rows.mjs): the forced cells as the released guide's own fill.sh prints them over the translation e26268c459990e4a… (all of the seat's roots in one cut). By AI agents, Wed Nov 11 2026. No macro, syntax, notation, axiom, sorry.
-/
import Derived.Test.YtcjfomibbdlbaaaChecked
import GoSem.Claim
import GoSem.ClaimJoined
import GoSem.ClaimMapViews
import Derived.JoinedTies
import Derived.KernelRfl
namespace Go.Proofs.Ytcjfomibbdlbaaa
/- THE CELL 'sum', in the pinned program and in every row, IS THE sha256 OF THE DUMP (.gsa) THAT YtcjfomibbdlbaaaProg.lean LOADS. Nothing in Lean hashes anything: it is a label: what it is worth is what the hold of that sum in a sandbox is worth. -/
noncomputable def Try.pinned : Pinned := { name := "ytcjfomibbdlbaaa", sum := "e26268c459990e4add34525fdcc77036b706329b2c2b6dcb8e698dbee7eae4ac", checked := Try.checked }
namespace Rows
def none {H : Type} : Left H := { results := [], args := [] }

/-- 'trimtablaw01.WideDivides': WHATEVER THE INPUT: true; the input reads as it did. -/
def wideDividesSpec : ChangeSpec := { name := "wideDivides", fn := fun _ => fun
  | [d1, d2, d3] => { results := [.lit (.bool true)], args := [d1, d2, d3] }
  | _ => none }
def wideDividesRow : OpenClaim := { program := "ytcjfomibbdlbaaa", sum := "e26268c459990e4add34525fdcc77036b706329b2c2b6dcb8e698dbee7eae4ac", func := "trimtab/trimtablaw01.WideDivides", spec := "wideDivides", inPlace := ["math/bits.Add64"], named := ["math/bits.divideError", "math/bits.overflowError"], apart := false }
def WideDividesSaid : Prop := wideDividesRow.holds Try.pinned (OpenSpec.ofChange wideDividesSpec)

/-- ITS FALSE NEIGHBOUR: 'it returns false'. Refute it at one input. -/
def wideDividesWrong : ChangeSpec := { name := "wideDivides", fn := fun _ => fun
  | [d1, d2, d3] => { results := [.lit (.bool false)], args := [d1, d2, d3] }
  | _ => none }
def WideDividesWrongFalsely : Prop := wideDividesRow.holds Try.pinned (OpenSpec.ofChange wideDividesWrong)

/-- 'trimtablaw01.WideParts': WHATEVER THE INPUT: true; the input reads as it did. -/
def widePartsSpec : ChangeSpec := { name := "wideParts", fn := fun _ => fun
  | [d1, d2, d3, d4] => { results := [.lit (.bool true)], args := [d1, d2, d3, d4] }
  | _ => none }
def widePartsRow : OpenClaim := { program := "ytcjfomibbdlbaaa", sum := "e26268c459990e4add34525fdcc77036b706329b2c2b6dcb8e698dbee7eae4ac", func := "trimtab/trimtablaw01.WideParts", spec := "wideParts", inPlace := ["math/bits.Add64"], named := ["math/bits.divideError", "math/bits.overflowError"], apart := false }
def WidePartsSaid : Prop := widePartsRow.holds Try.pinned (OpenSpec.ofChange widePartsSpec)

/-- ITS FALSE NEIGHBOUR: 'it returns false'. Refute it at one input. -/
def widePartsWrong : ChangeSpec := { name := "wideParts", fn := fun _ => fun
  | [d1, d2, d3, d4] => { results := [.lit (.bool false)], args := [d1, d2, d3, d4] }
  | _ => none }
def WidePartsWrongFalsely : Prop := widePartsRow.holds Try.pinned (OpenSpec.ofChange widePartsWrong)

/-- 'trimtablaw03.RatioGrows': WHATEVER THE INPUT: true; the input reads as it did. -/
def ratioGrowsSpec : ChangeSpec := { name := "ratioGrows", fn := fun _ => fun
  | [d1, d2, d3, d4, d5] => { results := [.lit (.bool true)], args := [d1, d2, d3, d4, d5] }
  | _ => none }
def ratioGrowsRow : OpenClaim := { program := "ytcjfomibbdlbaaa", sum := "e26268c459990e4add34525fdcc77036b706329b2c2b6dcb8e698dbee7eae4ac", func := "trimtab/trimtablaw03.RatioGrows", spec := "ratioGrows", inPlace := ["math/bits.Add64"], named := ["math/bits.divideError", "math/bits.overflowError"], apart := false }
def RatioGrowsSaid : Prop := ratioGrowsRow.holds Try.pinned (OpenSpec.ofChange ratioGrowsSpec)

/-- ITS FALSE NEIGHBOUR: 'it returns false'. Refute it at one input. -/
def ratioGrowsWrong : ChangeSpec := { name := "ratioGrows", fn := fun _ => fun
  | [d1, d2, d3, d4, d5] => { results := [.lit (.bool false)], args := [d1, d2, d3, d4, d5] }
  | _ => none }
def RatioGrowsWrongFalsely : Prop := ratioGrowsRow.holds Try.pinned (OpenSpec.ofChange ratioGrowsWrong)

/-- 'trimtablaw03.RatioNeeds': WHATEVER THE INPUT: true; the input reads as it did. -/
def ratioNeedsSpec : ChangeSpec := { name := "ratioNeeds", fn := fun _ => fun
  | [d1, d2, d3] => { results := [.lit (.bool true)], args := [d1, d2, d3] }
  | _ => none }
def ratioNeedsRow : OpenClaim := { program := "ytcjfomibbdlbaaa", sum := "e26268c459990e4add34525fdcc77036b706329b2c2b6dcb8e698dbee7eae4ac", func := "trimtab/trimtablaw03.RatioNeeds", spec := "ratioNeeds", inPlace := ["math/bits.Add64"], named := ["math/bits.divideError", "math/bits.overflowError"], apart := false }
def RatioNeedsSaid : Prop := ratioNeedsRow.holds Try.pinned (OpenSpec.ofChange ratioNeedsSpec)

/-- ITS FALSE NEIGHBOUR: 'it returns false'. Refute it at one input. -/
def ratioNeedsWrong : ChangeSpec := { name := "ratioNeeds", fn := fun _ => fun
  | [d1, d2, d3] => { results := [.lit (.bool false)], args := [d1, d2, d3] }
  | _ => none }
def RatioNeedsWrongFalsely : Prop := ratioNeedsRow.holds Try.pinned (OpenSpec.ofChange ratioNeedsWrong)

/-- 'trimtablaw03.RatioParts': WHATEVER THE INPUT: true; the input reads as it did. -/
def ratioPartsSpec : ChangeSpec := { name := "ratioParts", fn := fun _ => fun
  | [d1, d2, d3, d4] => { results := [.lit (.bool true)], args := [d1, d2, d3, d4] }
  | _ => none }
def ratioPartsRow : OpenClaim := { program := "ytcjfomibbdlbaaa", sum := "e26268c459990e4add34525fdcc77036b706329b2c2b6dcb8e698dbee7eae4ac", func := "trimtab/trimtablaw03.RatioParts", spec := "ratioParts", inPlace := ["math/bits.Add64"], named := ["math/bits.divideError", "math/bits.overflowError"], apart := false }
def RatioPartsSaid : Prop := ratioPartsRow.holds Try.pinned (OpenSpec.ofChange ratioPartsSpec)

/-- ITS FALSE NEIGHBOUR: 'it returns false'. Refute it at one input. -/
def ratioPartsWrong : ChangeSpec := { name := "ratioParts", fn := fun _ => fun
  | [d1, d2, d3, d4] => { results := [.lit (.bool false)], args := [d1, d2, d3, d4] }
  | _ => none }
def RatioPartsWrongFalsely : Prop := ratioPartsRow.holds Try.pinned (OpenSpec.ofChange ratioPartsWrong)

/-- 'trimtablaw01.WideProducts': WHATEVER THE INPUT: true; the input reads as it did. -/
def wideProductsSpec : ChangeSpec := { name := "wideProducts", fn := fun _ => fun
  | [d1, d2, d3, d4] => { results := [.lit (.bool true)], args := [d1, d2, d3, d4] }
  | _ => none }
def wideProductsRow : OpenClaim := { program := "ytcjfomibbdlbaaa", sum := "e26268c459990e4add34525fdcc77036b706329b2c2b6dcb8e698dbee7eae4ac", func := "trimtab/trimtablaw01.WideProducts", spec := "wideProducts", inPlace := ["math/bits.Add64"], named := ["math/bits.divideError", "math/bits.overflowError"], apart := false }
def WideProductsSaid : Prop := wideProductsRow.holds Try.pinned (OpenSpec.ofChange wideProductsSpec)

/-- ITS FALSE NEIGHBOUR: 'it returns false'. Refute it at one input. -/
def wideProductsWrong : ChangeSpec := { name := "wideProducts", fn := fun _ => fun
  | [d1, d2, d3, d4] => { results := [.lit (.bool false)], args := [d1, d2, d3, d4] }
  | _ => none }
def WideProductsWrongFalsely : Prop := wideProductsRow.holds Try.pinned (OpenSpec.ofChange wideProductsWrong)

/-- 'trimtablaw01.WideRatios': WHATEVER THE INPUT: true; the input reads as it did. -/
def wideRatiosSpec : ChangeSpec := { name := "wideRatios", fn := fun _ => fun
  | [d1, d2, d3, d4] => { results := [.lit (.bool true)], args := [d1, d2, d3, d4] }
  | _ => none }
def wideRatiosRow : OpenClaim := { program := "ytcjfomibbdlbaaa", sum := "e26268c459990e4add34525fdcc77036b706329b2c2b6dcb8e698dbee7eae4ac", func := "trimtab/trimtablaw01.WideRatios", spec := "wideRatios", inPlace := ["math/bits.Add64"], named := ["math/bits.divideError", "math/bits.overflowError"], apart := false }
def WideRatiosSaid : Prop := wideRatiosRow.holds Try.pinned (OpenSpec.ofChange wideRatiosSpec)

/-- ITS FALSE NEIGHBOUR: 'it returns false'. Refute it at one input. -/
def wideRatiosWrong : ChangeSpec := { name := "wideRatios", fn := fun _ => fun
  | [d1, d2, d3, d4] => { results := [.lit (.bool false)], args := [d1, d2, d3, d4] }
  | _ => none }
def WideRatiosWrongFalsely : Prop := wideRatiosRow.holds Try.pinned (OpenSpec.ofChange wideRatiosWrong)

/-- 'trimtablaw03.RatioNear': WHATEVER THE INPUT: true; the input reads as it did. -/
def ratioNearSpec : ChangeSpec := { name := "ratioNear", fn := fun _ => fun
  | [d1, d2, d3] => { results := [.lit (.bool true)], args := [d1, d2, d3] }
  | _ => none }
def ratioNearRow : OpenClaim := { program := "ytcjfomibbdlbaaa", sum := "e26268c459990e4add34525fdcc77036b706329b2c2b6dcb8e698dbee7eae4ac", func := "trimtab/trimtablaw03.RatioNear", spec := "ratioNear", inPlace := ["math/bits.Add64"], named := ["math/bits.divideError", "math/bits.overflowError"], apart := false }
def RatioNearSaid : Prop := ratioNearRow.holds Try.pinned (OpenSpec.ofChange ratioNearSpec)

/-- ITS FALSE NEIGHBOUR: 'it returns false'. Refute it at one input. -/
def ratioNearWrong : ChangeSpec := { name := "ratioNear", fn := fun _ => fun
  | [d1, d2, d3] => { results := [.lit (.bool false)], args := [d1, d2, d3] }
  | _ => none }
def RatioNearWrongFalsely : Prop := ratioNearRow.holds Try.pinned (OpenSpec.ofChange ratioNearWrong)

/- THE SECOND FORM. 'bulk': how many values and letters a reading holds, each counted each time it is reached (what is shared counts as often as it is met; a slice's spare places count too). A statement '..UptoSaid' is the law's where the arguments, and the package variables that the reading takes, are together of bulk at most 1048576: NARROWER than '..Said'. Prove '..Said' where nothing that the law and all that it calls make is longer than what came in: it says more and counts as full. Else prove '..UptoSaid'. A law counts once. -/
mutual
def uptoBulk {H : Type} : DataW H → Nat
  | .lit (.string bytes) => bytes.length + 1
  | .lit _ => 1
  | .nil => 1
  | .ptr d => uptoBulk d + 1
  | .slice elems spare => uptoBulkAll elems + uptoBulkAll spare + 1
  | .agg parts => uptoBulkAll parts + 1
  | .iface _ d => uptoBulk d + 1
  | .map entries => uptoBulkEntries entries + 1
  | .held _ => 1
def uptoBulkAll {H : Type} : List (DataW H) → Nat
  | [] => 0
  | d :: r => uptoBulk d + uptoBulkAll r
def uptoBulkEntries {H : Type} : List (Lit × DataW H) → Nat
  | [] => 0
  | x :: r => uptoBulkEntry x + uptoBulkEntries r
def uptoBulkEntry {H : Type} : Lit × DataW H → Nat
  | (.string bytes, d) => bytes.length + uptoBulk d + 1
  | (_, d) => uptoBulk d + 1
 end
def uptoSmall : (H : Type) → List (DataW H) → Bool := fun _ ds => decide (uptoBulkAll ds ≤ 1048576)
def OpenSpec.upto (s : _root_.Go.ChangeSpec) : _root_.Go.OpenSpec := { _root_.Go.OpenSpec.ofChange s with cond := some uptoSmall }

/-- 'trimtablaw01.WideDivides', WHERE WHAT IT READS IS OF BULK AT MOST 1048576: true; the input reads as it did. -/
def wideDividesUptoRow : OpenClaim := { program := "ytcjfomibbdlbaaa", sum := "e26268c459990e4add34525fdcc77036b706329b2c2b6dcb8e698dbee7eae4ac", func := "trimtab/trimtablaw01.WideDivides", spec := "wideDivides", inPlace := ["math/bits.Add64"], named := ["math/bits.divideError", "math/bits.overflowError"], apart := false, narrowed := true }
def WideDividesUptoSaid : Prop := wideDividesUptoRow.holds Try.pinned (OpenSpec.upto wideDividesSpec)

/-- 'trimtablaw01.WideParts', WHERE WHAT IT READS IS OF BULK AT MOST 1048576: true; the input reads as it did. -/
def widePartsUptoRow : OpenClaim := { program := "ytcjfomibbdlbaaa", sum := "e26268c459990e4add34525fdcc77036b706329b2c2b6dcb8e698dbee7eae4ac", func := "trimtab/trimtablaw01.WideParts", spec := "wideParts", inPlace := ["math/bits.Add64"], named := ["math/bits.divideError", "math/bits.overflowError"], apart := false, narrowed := true }
def WidePartsUptoSaid : Prop := widePartsUptoRow.holds Try.pinned (OpenSpec.upto widePartsSpec)

/-- 'trimtablaw03.RatioGrows', WHERE WHAT IT READS IS OF BULK AT MOST 1048576: true; the input reads as it did. -/
def ratioGrowsUptoRow : OpenClaim := { program := "ytcjfomibbdlbaaa", sum := "e26268c459990e4add34525fdcc77036b706329b2c2b6dcb8e698dbee7eae4ac", func := "trimtab/trimtablaw03.RatioGrows", spec := "ratioGrows", inPlace := ["math/bits.Add64"], named := ["math/bits.divideError", "math/bits.overflowError"], apart := false, narrowed := true }
def RatioGrowsUptoSaid : Prop := ratioGrowsUptoRow.holds Try.pinned (OpenSpec.upto ratioGrowsSpec)

/-- 'trimtablaw03.RatioNeeds', WHERE WHAT IT READS IS OF BULK AT MOST 1048576: true; the input reads as it did. -/
def ratioNeedsUptoRow : OpenClaim := { program := "ytcjfomibbdlbaaa", sum := "e26268c459990e4add34525fdcc77036b706329b2c2b6dcb8e698dbee7eae4ac", func := "trimtab/trimtablaw03.RatioNeeds", spec := "ratioNeeds", inPlace := ["math/bits.Add64"], named := ["math/bits.divideError", "math/bits.overflowError"], apart := false, narrowed := true }
def RatioNeedsUptoSaid : Prop := ratioNeedsUptoRow.holds Try.pinned (OpenSpec.upto ratioNeedsSpec)

/-- 'trimtablaw03.RatioParts', WHERE WHAT IT READS IS OF BULK AT MOST 1048576: true; the input reads as it did. -/
def ratioPartsUptoRow : OpenClaim := { program := "ytcjfomibbdlbaaa", sum := "e26268c459990e4add34525fdcc77036b706329b2c2b6dcb8e698dbee7eae4ac", func := "trimtab/trimtablaw03.RatioParts", spec := "ratioParts", inPlace := ["math/bits.Add64"], named := ["math/bits.divideError", "math/bits.overflowError"], apart := false, narrowed := true }
def RatioPartsUptoSaid : Prop := ratioPartsUptoRow.holds Try.pinned (OpenSpec.upto ratioPartsSpec)

/-- 'trimtablaw01.WideProducts', WHERE WHAT IT READS IS OF BULK AT MOST 1048576: true; the input reads as it did. -/
def wideProductsUptoRow : OpenClaim := { program := "ytcjfomibbdlbaaa", sum := "e26268c459990e4add34525fdcc77036b706329b2c2b6dcb8e698dbee7eae4ac", func := "trimtab/trimtablaw01.WideProducts", spec := "wideProducts", inPlace := ["math/bits.Add64"], named := ["math/bits.divideError", "math/bits.overflowError"], apart := false, narrowed := true }
def WideProductsUptoSaid : Prop := wideProductsUptoRow.holds Try.pinned (OpenSpec.upto wideProductsSpec)

/-- 'trimtablaw01.WideRatios', WHERE WHAT IT READS IS OF BULK AT MOST 1048576: true; the input reads as it did. -/
def wideRatiosUptoRow : OpenClaim := { program := "ytcjfomibbdlbaaa", sum := "e26268c459990e4add34525fdcc77036b706329b2c2b6dcb8e698dbee7eae4ac", func := "trimtab/trimtablaw01.WideRatios", spec := "wideRatios", inPlace := ["math/bits.Add64"], named := ["math/bits.divideError", "math/bits.overflowError"], apart := false, narrowed := true }
def WideRatiosUptoSaid : Prop := wideRatiosUptoRow.holds Try.pinned (OpenSpec.upto wideRatiosSpec)

/-- 'trimtablaw03.RatioNear', WHERE WHAT IT READS IS OF BULK AT MOST 1048576: true; the input reads as it did. -/
def ratioNearUptoRow : OpenClaim := { program := "ytcjfomibbdlbaaa", sum := "e26268c459990e4add34525fdcc77036b706329b2c2b6dcb8e698dbee7eae4ac", func := "trimtab/trimtablaw03.RatioNear", spec := "ratioNear", inPlace := ["math/bits.Add64"], named := ["math/bits.divideError", "math/bits.overflowError"], apart := false, narrowed := true }
def RatioNearUptoSaid : Prop := ratioNearUptoRow.holds Try.pinned (OpenSpec.upto ratioNearSpec)

end Rows
end Go.Proofs.Ytcjfomibbdlbaaa
