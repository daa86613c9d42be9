/-
  No cell of these rows narrows 'for every input' (looked for: loops, veiled, ifaces, maps, wideKeys, modest, calm, conditions, laid).
  DERIVED. THE GIVEN ROWS OF THIS SEAT. 8 by the template 'for every input the law returns true; each argument reads behind the call as it read before'; 0 by the template 'total and deterministic' (their statements: YtilmmmokobhnfaaTotals.lean).
  GIVEN WITH THE SEED: the statements are not yours to turn. If you find one false, say at which input.
  Laid BY PROGRAM, IN A SANDBOX (cutbox-rows.mjs): the forced cells as the released guide's own fill.sh prints them over the translation 4ac104ea03255b8f… (all of the seat's roots in one cut). By AI agents, Wed Nov 11 2026. No macro, syntax, notation, axiom, sorry.
-/
import Derived.Test.YtilmmmokobhnfaaChecked
import GoSem.Claim
import GoSem.ClaimJoined
import GoSem.ClaimMapViews
import Derived.JoinedTies
import Derived.KernelRfl
namespace Go.Proofs.Ytilmmmokobhnfaa
/- THE CELL 'sum', in the pinned program and in every row, IS THE sha256 OF THE DUMP (.gsa) THAT YtilmmmokobhnfaaProg.lean LOADS. Nothing in Lean hashes anything: it is a label: what it is worth is what the hold of that sum in a sandbox is worth. -/
noncomputable def Try.pinned : Pinned := { name := "ytilmmmokobhnfaa", sum := "4ac104ea03255b8f9284cc659d1589f262762ecae8849f5c20413519873f925f", checked := Try.checked }
namespace Rows
def none {H : Type} : Left H := { results := [], args := [] }

/-- 'trimtablaw14.PodsNext': WHATEVER THE INPUT: true; the input reads as it did. -/
def podsNextSpec : ChangeSpec := { name := "podsNext", fn := fun _ => fun
  | [d1, d2, d3] => { results := [.lit (.bool true)], args := [d1, d2, d3] }
  | _ => none }
def podsNextRow : OpenClaim := { program := "ytilmmmokobhnfaa", sum := "4ac104ea03255b8f9284cc659d1589f262762ecae8849f5c20413519873f925f", func := "trimtab/trimtablaw14.PodsNext", spec := "podsNext", apart := false }
def PodsNextSaid : Prop := podsNextRow.holds Try.pinned (OpenSpec.ofChange podsNextSpec)

/-- ITS FALSE NEIGHBOUR: 'it returns false'. Refute it at one input. -/
def podsNextWrong : ChangeSpec := { name := "podsNext", fn := fun _ => fun
  | [d1, d2, d3] => { results := [.lit (.bool false)], args := [d1, d2, d3] }
  | _ => none }
def PodsNextWrongFalsely : Prop := podsNextRow.holds Try.pinned (OpenSpec.ofChange podsNextWrong)

/-- 'trimtablaw14.PodsMade': WHATEVER THE INPUT: true; the input reads as it did. -/
def podsMadeSpec : ChangeSpec := { name := "podsMade", fn := fun _ => fun
  | [d1, d2] => { results := [.lit (.bool true)], args := [d1, d2] }
  | _ => none }
def podsMadeRow : OpenClaim := { program := "ytilmmmokobhnfaa", sum := "4ac104ea03255b8f9284cc659d1589f262762ecae8849f5c20413519873f925f", func := "trimtab/trimtablaw14.PodsMade", spec := "podsMade", apart := false }
def PodsMadeSaid : Prop := podsMadeRow.holds Try.pinned (OpenSpec.ofChange podsMadeSpec)

/-- ITS FALSE NEIGHBOUR: 'it returns false'. Refute it at one input. -/
def podsMadeWrong : ChangeSpec := { name := "podsMade", fn := fun _ => fun
  | [d1, d2] => { results := [.lit (.bool false)], args := [d1, d2] }
  | _ => none }
def PodsMadeWrongFalsely : Prop := podsMadeRow.holds Try.pinned (OpenSpec.ofChange podsMadeWrong)

/-- 'trimtablaw06.OctetWrites': WHATEVER THE INPUT: true; the input reads as it did. -/
def octetWritesSpec : ChangeSpec := { name := "octetWrites", fn := fun _ => fun
  | [d] => { results := [.lit (.bool true)], args := [d] }
  | _ => none }
def octetWritesRow : OpenClaim := { program := "ytilmmmokobhnfaa", sum := "4ac104ea03255b8f9284cc659d1589f262762ecae8849f5c20413519873f925f", func := "trimtab/trimtablaw06.OctetWrites", spec := "octetWrites", unfollowed := true, recurses := true, apart := false }
def OctetWritesSaid : Prop := octetWritesRow.holds Try.pinned (OpenSpec.ofChange octetWritesSpec)

/-- ITS FALSE NEIGHBOUR: 'it returns false'. Refute it at one input. -/
def octetWritesWrong : ChangeSpec := { name := "octetWrites", fn := fun _ => fun
  | [d] => { results := [.lit (.bool false)], args := [d] }
  | _ => none }
def OctetWritesWrongFalsely : Prop := octetWritesRow.holds Try.pinned (OpenSpec.ofChange octetWritesWrong)

/-- 'trimtablaw10.RingPlays': WHATEVER THE INPUT: true; the input reads as it did. -/
def ringPlaysSpec : ChangeSpec := { name := "ringPlays", fn := fun _ => fun
  | [d1, d2, d3] => { results := [.lit (.bool true)], args := [d1, d2, d3] }
  | _ => none }
def ringPlaysRow : OpenClaim := { program := "ytilmmmokobhnfaa", sum := "4ac104ea03255b8f9284cc659d1589f262762ecae8849f5c20413519873f925f", func := "trimtab/trimtablaw10.RingPlays", spec := "ringPlays", unfollowed := true, recurses := true, apart := false }
def RingPlaysSaid : Prop := ringPlaysRow.holds Try.pinned (OpenSpec.ofChange ringPlaysSpec)

/-- ITS FALSE NEIGHBOUR: 'it returns false'. Refute it at one input. -/
def ringPlaysWrong : ChangeSpec := { name := "ringPlays", fn := fun _ => fun
  | [d1, d2, d3] => { results := [.lit (.bool false)], args := [d1, d2, d3] }
  | _ => none }
def RingPlaysWrongFalsely : Prop := ringPlaysRow.holds Try.pinned (OpenSpec.ofChange ringPlaysWrong)

/-- 'trimtablaw10.RingNone': WHATEVER THE INPUT: true; the input reads as it did. -/
def ringNoneSpec : ChangeSpec := { name := "ringNone", fn := fun _ => fun
  | [d1, d2] => { results := [.lit (.bool true)], args := [d1, d2] }
  | _ => none }
def ringNoneRow : OpenClaim := { program := "ytilmmmokobhnfaa", sum := "4ac104ea03255b8f9284cc659d1589f262762ecae8849f5c20413519873f925f", func := "trimtab/trimtablaw10.RingNone", spec := "ringNone", unfollowed := true, recurses := true, apart := false }
def RingNoneSaid : Prop := ringNoneRow.holds Try.pinned (OpenSpec.ofChange ringNoneSpec)

/-- ITS FALSE NEIGHBOUR: 'it returns false'. Refute it at one input. -/
def ringNoneWrong : ChangeSpec := { name := "ringNone", fn := fun _ => fun
  | [d1, d2] => { results := [.lit (.bool false)], args := [d1, d2] }
  | _ => none }
def RingNoneWrongFalsely : Prop := ringNoneRow.holds Try.pinned (OpenSpec.ofChange ringNoneWrong)

/-- 'trimtablaw06.OctetReads': WHATEVER THE INPUT: true; the input reads as it did. -/
def octetReadsSpec : ChangeSpec := { name := "octetReads", fn := fun _ => fun
  | [d] => { results := [.lit (.bool true)], args := [d] }
  | _ => none }
def octetReadsRow : OpenClaim := { program := "ytilmmmokobhnfaa", sum := "4ac104ea03255b8f9284cc659d1589f262762ecae8849f5c20413519873f925f", func := "trimtab/trimtablaw06.OctetReads", spec := "octetReads", unfollowed := true, recurses := true, apart := false }
def OctetReadsSaid : Prop := octetReadsRow.holds Try.pinned (OpenSpec.ofChange octetReadsSpec)

/-- ITS FALSE NEIGHBOUR: 'it returns false'. Refute it at one input. -/
def octetReadsWrong : ChangeSpec := { name := "octetReads", fn := fun _ => fun
  | [d] => { results := [.lit (.bool false)], args := [d] }
  | _ => none }
def OctetReadsWrongFalsely : Prop := octetReadsRow.holds Try.pinned (OpenSpec.ofChange octetReadsWrong)

/-- 'trimtablaw06.OctetBad': WHATEVER THE INPUT: true; the input reads as it did. -/
def octetBadSpec : ChangeSpec := { name := "octetBad", fn := fun _ => fun
  | [d1, d2] => { results := [.lit (.bool true)], args := [d1, d2] }
  | _ => none }
def octetBadRow : OpenClaim := { program := "ytilmmmokobhnfaa", sum := "4ac104ea03255b8f9284cc659d1589f262762ecae8849f5c20413519873f925f", func := "trimtab/trimtablaw06.OctetBad", spec := "octetBad", unfollowed := true, recurses := true, apart := false }
def OctetBadSaid : Prop := octetBadRow.holds Try.pinned (OpenSpec.ofChange octetBadSpec)

/-- ITS FALSE NEIGHBOUR: 'it returns false'. Refute it at one input. -/
def octetBadWrong : ChangeSpec := { name := "octetBad", fn := fun _ => fun
  | [d1, d2] => { results := [.lit (.bool false)], args := [d1, d2] }
  | _ => none }
def OctetBadWrongFalsely : Prop := octetBadRow.holds Try.pinned (OpenSpec.ofChange octetBadWrong)

/-- 'trimtablaw06.OctetObjects': WHATEVER THE INPUT: true; the input reads as it did. -/
def octetObjectsSpec : ChangeSpec := { name := "octetObjects", fn := fun _ => fun
  | [d] => { results := [.lit (.bool true)], args := [d] }
  | _ => none }
def octetObjectsRow : OpenClaim := { program := "ytilmmmokobhnfaa", sum := "4ac104ea03255b8f9284cc659d1589f262762ecae8849f5c20413519873f925f", func := "trimtab/trimtablaw06.OctetObjects", spec := "octetObjects", unfollowed := true, recurses := true, apart := false }
def OctetObjectsSaid : Prop := octetObjectsRow.holds Try.pinned (OpenSpec.ofChange octetObjectsSpec)

/-- ITS FALSE NEIGHBOUR: 'it returns false'. Refute it at one input. -/
def octetObjectsWrong : ChangeSpec := { name := "octetObjects", fn := fun _ => fun
  | [d] => { results := [.lit (.bool false)], args := [d] }
  | _ => none }
def OctetObjectsWrongFalsely : Prop := octetObjectsRow.holds Try.pinned (OpenSpec.ofChange octetObjectsWrong)

/- THE SECOND FORM. 'bulk': how many values and letters a reading holds, each counted each time it is reached (what is shared counts as often as it is met; a slice's spare places count too). A statement '..UptoSaid' is the law's where the arguments, and the package variables that the reading takes, are together of bulk at most 1048576: NARROWER than '..Said'. Prove '..Said' where nothing that the law and all that it calls make is longer than what came in: it says more and counts as full. Else prove '..UptoSaid'. A law counts once. -/
mutual
def uptoBulk {H : Type} : DataW H → Nat
  | .lit (.string bytes) => bytes.length + 1
  | .lit _ => 1
  | .nil => 1
  | .ptr d => uptoBulk d + 1
  | .slice elems spare => uptoBulkAll elems + uptoBulkAll spare + 1
  | .agg parts => uptoBulkAll parts + 1
  | .iface _ d => uptoBulk d + 1
  | .map entries => uptoBulkEntries entries + 1
  | .held _ => 1
def uptoBulkAll {H : Type} : List (DataW H) → Nat
  | [] => 0
  | d :: r => uptoBulk d + uptoBulkAll r
def uptoBulkEntries {H : Type} : List (Lit × DataW H) → Nat
  | [] => 0
  | x :: r => uptoBulkEntry x + uptoBulkEntries r
def uptoBulkEntry {H : Type} : Lit × DataW H → Nat
  | (.string bytes, d) => bytes.length + uptoBulk d + 1
  | (_, d) => uptoBulk d + 1
 end
def uptoSmall : (H : Type) → List (DataW H) → Bool := fun _ ds => decide (uptoBulkAll ds ≤ 1048576)
def OpenSpec.upto (s : _root_.Go.ChangeSpec) : _root_.Go.OpenSpec := { _root_.Go.OpenSpec.ofChange s with cond := some uptoSmall }

/-- 'trimtablaw14.PodsNext', WHERE WHAT IT READS IS OF BULK AT MOST 1048576: true; the input reads as it did. -/
def podsNextUptoRow : OpenClaim := { program := "ytilmmmokobhnfaa", sum := "4ac104ea03255b8f9284cc659d1589f262762ecae8849f5c20413519873f925f", func := "trimtab/trimtablaw14.PodsNext", spec := "podsNext", apart := false, narrowed := true }
def PodsNextUptoSaid : Prop := podsNextUptoRow.holds Try.pinned (OpenSpec.upto podsNextSpec)

/-- 'trimtablaw14.PodsMade', WHERE WHAT IT READS IS OF BULK AT MOST 1048576: true; the input reads as it did. -/
def podsMadeUptoRow : OpenClaim := { program := "ytilmmmokobhnfaa", sum := "4ac104ea03255b8f9284cc659d1589f262762ecae8849f5c20413519873f925f", func := "trimtab/trimtablaw14.PodsMade", spec := "podsMade", apart := false, narrowed := true }
def PodsMadeUptoSaid : Prop := podsMadeUptoRow.holds Try.pinned (OpenSpec.upto podsMadeSpec)

/-- 'trimtablaw06.OctetWrites', WHERE WHAT IT READS IS OF BULK AT MOST 1048576: true; the input reads as it did. -/
def octetWritesUptoRow : OpenClaim := { program := "ytilmmmokobhnfaa", sum := "4ac104ea03255b8f9284cc659d1589f262762ecae8849f5c20413519873f925f", func := "trimtab/trimtablaw06.OctetWrites", spec := "octetWrites", unfollowed := true, recurses := true, apart := false, narrowed := true }
def OctetWritesUptoSaid : Prop := octetWritesUptoRow.holds Try.pinned (OpenSpec.upto octetWritesSpec)

/-- 'trimtablaw10.RingPlays', WHERE WHAT IT READS IS OF BULK AT MOST 1048576: true; the input reads as it did. -/
def ringPlaysUptoRow : OpenClaim := { program := "ytilmmmokobhnfaa", sum := "4ac104ea03255b8f9284cc659d1589f262762ecae8849f5c20413519873f925f", func := "trimtab/trimtablaw10.RingPlays", spec := "ringPlays", unfollowed := true, recurses := true, apart := false, narrowed := true }
def RingPlaysUptoSaid : Prop := ringPlaysUptoRow.holds Try.pinned (OpenSpec.upto ringPlaysSpec)

/-- 'trimtablaw10.RingNone', WHERE WHAT IT READS IS OF BULK AT MOST 1048576: true; the input reads as it did. -/
def ringNoneUptoRow : OpenClaim := { program := "ytilmmmokobhnfaa", sum := "4ac104ea03255b8f9284cc659d1589f262762ecae8849f5c20413519873f925f", func := "trimtab/trimtablaw10.RingNone", spec := "ringNone", unfollowed := true, recurses := true, apart := false, narrowed := true }
def RingNoneUptoSaid : Prop := ringNoneUptoRow.holds Try.pinned (OpenSpec.upto ringNoneSpec)

/-- 'trimtablaw06.OctetReads', WHERE WHAT IT READS IS OF BULK AT MOST 1048576: true; the input reads as it did. -/
def octetReadsUptoRow : OpenClaim := { program := "ytilmmmokobhnfaa", sum := "4ac104ea03255b8f9284cc659d1589f262762ecae8849f5c20413519873f925f", func := "trimtab/trimtablaw06.OctetReads", spec := "octetReads", unfollowed := true, recurses := true, apart := false, narrowed := true }
def OctetReadsUptoSaid : Prop := octetReadsUptoRow.holds Try.pinned (OpenSpec.upto octetReadsSpec)

/-- 'trimtablaw06.OctetBad', WHERE WHAT IT READS IS OF BULK AT MOST 1048576: true; the input reads as it did. -/
def octetBadUptoRow : OpenClaim := { program := "ytilmmmokobhnfaa", sum := "4ac104ea03255b8f9284cc659d1589f262762ecae8849f5c20413519873f925f", func := "trimtab/trimtablaw06.OctetBad", spec := "octetBad", unfollowed := true, recurses := true, apart := false, narrowed := true }
def OctetBadUptoSaid : Prop := octetBadUptoRow.holds Try.pinned (OpenSpec.upto octetBadSpec)

/-- 'trimtablaw06.OctetObjects', WHERE WHAT IT READS IS OF BULK AT MOST 1048576: true; the input reads as it did. -/
def octetObjectsUptoRow : OpenClaim := { program := "ytilmmmokobhnfaa", sum := "4ac104ea03255b8f9284cc659d1589f262762ecae8849f5c20413519873f925f", func := "trimtab/trimtablaw06.OctetObjects", spec := "octetObjects", unfollowed := true, recurses := true, apart := false, narrowed := true }
def OctetObjectsUptoSaid : Prop := octetObjectsUptoRow.holds Try.pinned (OpenSpec.upto octetObjectsSpec)

end Rows
end Go.Proofs.Ytilmmmokobhnfaa
