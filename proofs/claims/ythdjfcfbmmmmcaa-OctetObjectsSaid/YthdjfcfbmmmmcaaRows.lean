/-
  No cell of these rows narrows 'for every input' (looked for: loops, veiled, ifaces, maps, wideKeys, modest, calm, conditions, laid).
  DERIVED. THE GIVEN ROWS OF THIS SEAT. 2 by the template 'for every input the law returns true; each argument reads behind the call as it read before'; 0 by the template 'total and deterministic' (their statements: YthdjfcfbmmmmcaaTotals.lean).
  GIVEN WITH THE SEED: the statements are not yours to turn. If you find one false, say at which input.
  Laid BY PROGRAM, IN A SANDBOX (cutbox-rows.mjs): the forced cells as the released guide's own fill.sh prints them over the translation abc42c69c897112a… (all of the seat's roots in one cut). By AI agents, Wed Nov 11 2026. No macro, syntax, notation, axiom, sorry.
-/
import Derived.Test.YthdjfcfbmmmmcaaChecked
import GoSem.Claim
import GoSem.ClaimJoined
import GoSem.ClaimMapViews
import Derived.JoinedTies
import Derived.KernelRfl
namespace Go.Proofs.Ythdjfcfbmmmmcaa
/- THE CELL 'sum', in the pinned program and in every row, IS THE sha256 OF THE DUMP (.gsa) THAT YthdjfcfbmmmmcaaProg.lean LOADS. Nothing in Lean hashes anything: it is a label: what it is worth is what the hold of that sum in a sandbox is worth. -/
noncomputable def Try.pinned : Pinned := { name := "ythdjfcfbmmmmcaa", sum := "abc42c69c897112a754eb2ed02658e8f913ec9cca65604d6f423ca2eed1a7129", checked := Try.checked }
namespace Rows
def none {H : Type} : Left H := { results := [], args := [] }

/-- 'trimtablaw06.OctetReads': WHATEVER THE INPUT: true; the input reads as it did. -/
def octetReadsSpec : ChangeSpec := { name := "octetReads", fn := fun _ => fun
  | [d] => { results := [.lit (.bool true)], args := [d] }
  | _ => none }
def octetReadsRow : OpenClaim := { program := "ythdjfcfbmmmmcaa", sum := "abc42c69c897112a754eb2ed02658e8f913ec9cca65604d6f423ca2eed1a7129", func := "trimtab/trimtablaw06.OctetReads", spec := "octetReads", unfollowed := true, recurses := true, apart := false }
def OctetReadsSaid : Prop := octetReadsRow.holds Try.pinned (OpenSpec.ofChange octetReadsSpec)

/-- ITS FALSE NEIGHBOUR: 'it returns false'. Refute it at one input. -/
def octetReadsWrong : ChangeSpec := { name := "octetReads", fn := fun _ => fun
  | [d] => { results := [.lit (.bool false)], args := [d] }
  | _ => none }
def OctetReadsWrongFalsely : Prop := octetReadsRow.holds Try.pinned (OpenSpec.ofChange octetReadsWrong)

/-- 'trimtablaw06.OctetObjects': WHATEVER THE INPUT: true; the input reads as it did. -/
def octetObjectsSpec : ChangeSpec := { name := "octetObjects", fn := fun _ => fun
  | [d] => { results := [.lit (.bool true)], args := [d] }
  | _ => none }
def octetObjectsRow : OpenClaim := { program := "ythdjfcfbmmmmcaa", sum := "abc42c69c897112a754eb2ed02658e8f913ec9cca65604d6f423ca2eed1a7129", func := "trimtab/trimtablaw06.OctetObjects", spec := "octetObjects", unfollowed := true, recurses := true, apart := false }
def OctetObjectsSaid : Prop := octetObjectsRow.holds Try.pinned (OpenSpec.ofChange octetObjectsSpec)

/-- ITS FALSE NEIGHBOUR: 'it returns false'. Refute it at one input. -/
def octetObjectsWrong : ChangeSpec := { name := "octetObjects", fn := fun _ => fun
  | [d] => { results := [.lit (.bool false)], args := [d] }
  | _ => none }
def OctetObjectsWrongFalsely : Prop := octetObjectsRow.holds Try.pinned (OpenSpec.ofChange octetObjectsWrong)

/- THE SECOND FORM. 'bulk': how many values and letters a reading holds, each counted each time it is reached (what is shared counts as often as it is met; a slice's spare places count too). A statement '..UptoSaid' is the law's where the arguments, and the package variables that the reading takes, are together of bulk at most 1048576: NARROWER than '..Said'. Prove '..Said' where nothing that the law and all that it calls make is longer than what came in: it says more and counts as full. Else prove '..UptoSaid'. A law counts once. -/
mutual
def uptoBulk {H : Type} : DataW H → Nat
  | .lit (.string bytes) => bytes.length + 1
  | .lit _ => 1
  | .nil => 1
  | .ptr d => uptoBulk d + 1
  | .slice elems spare => uptoBulkAll elems + uptoBulkAll spare + 1
  | .agg parts => uptoBulkAll parts + 1
  | .iface _ d => uptoBulk d + 1
  | .map entries => uptoBulkEntries entries + 1
  | .held _ => 1
def uptoBulkAll {H : Type} : List (DataW H) → Nat
  | [] => 0
  | d :: r => uptoBulk d + uptoBulkAll r
def uptoBulkEntries {H : Type} : List (Lit × DataW H) → Nat
  | [] => 0
  | x :: r => uptoBulkEntry x + uptoBulkEntries r
def uptoBulkEntry {H : Type} : Lit × DataW H → Nat
  | (.string bytes, d) => bytes.length + uptoBulk d + 1
  | (_, d) => uptoBulk d + 1
 end
def uptoSmall : (H : Type) → List (DataW H) → Bool := fun _ ds => decide (uptoBulkAll ds ≤ 1048576)
def OpenSpec.upto (s : _root_.Go.ChangeSpec) : _root_.Go.OpenSpec := { _root_.Go.OpenSpec.ofChange s with cond := some uptoSmall }

/-- 'trimtablaw06.OctetReads', WHERE WHAT IT READS IS OF BULK AT MOST 1048576: true; the input reads as it did. -/
def octetReadsUptoRow : OpenClaim := { program := "ythdjfcfbmmmmcaa", sum := "abc42c69c897112a754eb2ed02658e8f913ec9cca65604d6f423ca2eed1a7129", func := "trimtab/trimtablaw06.OctetReads", spec := "octetReads", unfollowed := true, recurses := true, apart := false, narrowed := true }
def OctetReadsUptoSaid : Prop := octetReadsUptoRow.holds Try.pinned (OpenSpec.upto octetReadsSpec)

/-- 'trimtablaw06.OctetObjects', WHERE WHAT IT READS IS OF BULK AT MOST 1048576: true; the input reads as it did. -/
def octetObjectsUptoRow : OpenClaim := { program := "ythdjfcfbmmmmcaa", sum := "abc42c69c897112a754eb2ed02658e8f913ec9cca65604d6f423ca2eed1a7129", func := "trimtab/trimtablaw06.OctetObjects", spec := "octetObjects", unfollowed := true, recurses := true, apart := false, narrowed := true }
def OctetObjectsUptoSaid : Prop := octetObjectsUptoRow.holds Try.pinned (OpenSpec.upto octetObjectsSpec)

end Rows
end Go.Proofs.Ythdjfcfbmmmmcaa
