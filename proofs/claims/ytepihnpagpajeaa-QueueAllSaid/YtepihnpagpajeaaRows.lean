/-
  No cell of these rows narrows 'for every input' (looked for: loops, veiled, ifaces, maps, wideKeys, modest, calm, conditions, laid).
  DERIVED. THE GIVEN ROWS OF THIS SEAT. 8 by the template 'for every input the law returns true; each argument reads behind the call as it read before'; 0 by the template 'total and deterministic' (their statements: YtepihnpagpajeaaTotals.lean).
  GIVEN WITH THE SEED: the statements are not yours to turn. If you find one false, say at which input.
  Laid BY PROGRAM, IN A SANDBOX (cutbox-rows.mjs): the forced cells as the released guide's own fill.sh prints them over the translation 026a8f732d41a96d… (all of the seat's roots in one cut). By AI agents, Wed Nov 11 2026. No macro, syntax, notation, axiom, sorry.
-/
import Derived.Test.YtepihnpagpajeaaChecked
import GoSem.Claim
import GoSem.ClaimJoined
import GoSem.ClaimMapViews
import Derived.JoinedTies
import Derived.KernelRfl
namespace Go.Proofs.Ytepihnpagpajeaa
/- THE CELL 'sum', in the pinned program and in every row, IS THE sha256 OF THE DUMP (.gsa) THAT YtepihnpagpajeaaProg.lean LOADS. Nothing in Lean hashes anything: it is a label: what it is worth is what the hold of that sum in a sandbox is worth. -/
noncomputable def Try.pinned : Pinned := { name := "ytepihnpagpajeaa", sum := "026a8f732d41a96d1f56a2cab6b458eca9ed002561044211ee87342fec768ff6", checked := Try.checked }
namespace Rows
def none {H : Type} : Left H := { results := [], args := [] }

/-- 'trimtablaw41.MeterNone': WHATEVER THE INPUT: true; the input reads as it did. -/
def meterNoneSpec : ChangeSpec := { name := "meterNone", fn := fun _ => fun
  | [d1, d2] => { results := [.lit (.bool true)], args := [d1, d2] }
  | _ => none }
def meterNoneRow : OpenClaim := { program := "ytepihnpagpajeaa", sum := "026a8f732d41a96d1f56a2cab6b458eca9ed002561044211ee87342fec768ff6", func := "trimtab/trimtablaw41.MeterNone", spec := "meterNone", inPlace := ["math/bits.Add64"], unfollowed := true, recurses := true, plainKeys := false, apart := false }
def MeterNoneSaid : Prop := meterNoneRow.holds Try.pinned (OpenSpec.ofChange meterNoneSpec)

/-- ITS FALSE NEIGHBOUR: 'it returns false'. Refute it at one input. -/
def meterNoneWrong : ChangeSpec := { name := "meterNone", fn := fun _ => fun
  | [d1, d2] => { results := [.lit (.bool false)], args := [d1, d2] }
  | _ => none }
def MeterNoneWrongFalsely : Prop := meterNoneRow.holds Try.pinned (OpenSpec.ofChange meterNoneWrong)

/-- 'trimtablaw37.QueueNone': WHATEVER THE INPUT: true; the input reads as it did. -/
def queueNoneSpec : ChangeSpec := { name := "queueNone", fn := fun _ => fun
  | [d1, d2] => { results := [.lit (.bool true)], args := [d1, d2] }
  | _ => none }
def queueNoneRow : OpenClaim := { program := "ytepihnpagpajeaa", sum := "026a8f732d41a96d1f56a2cab6b458eca9ed002561044211ee87342fec768ff6", func := "trimtab/trimtablaw37.QueueNone", spec := "queueNone", inPlace := ["maps.clone"], unfollowed := true, recurses := true, plainKeys := false, apart := false }
def QueueNoneSaid : Prop := queueNoneRow.holds Try.pinned (OpenSpec.ofChange queueNoneSpec)

/-- ITS FALSE NEIGHBOUR: 'it returns false'. Refute it at one input. -/
def queueNoneWrong : ChangeSpec := { name := "queueNone", fn := fun _ => fun
  | [d1, d2] => { results := [.lit (.bool false)], args := [d1, d2] }
  | _ => none }
def QueueNoneWrongFalsely : Prop := queueNoneRow.holds Try.pinned (OpenSpec.ofChange queueNoneWrong)

/-- 'trimtablaw37.QueueAll': WHATEVER THE INPUT: true; the input reads as it did. -/
def queueAllSpec : ChangeSpec := { name := "queueAll", fn := fun _ => fun
  | [d] => { results := [.lit (.bool true)], args := [d] }
  | _ => none }
def queueAllRow : OpenClaim := { program := "ytepihnpagpajeaa", sum := "026a8f732d41a96d1f56a2cab6b458eca9ed002561044211ee87342fec768ff6", func := "trimtab/trimtablaw37.QueueAll", spec := "queueAll", unfollowed := true, recurses := true, plainKeys := false, apart := false }
def QueueAllSaid : Prop := queueAllRow.holds Try.pinned (OpenSpec.ofChange queueAllSpec)

/-- ITS FALSE NEIGHBOUR: 'it returns false'. Refute it at one input. -/
def queueAllWrong : ChangeSpec := { name := "queueAll", fn := fun _ => fun
  | [d] => { results := [.lit (.bool false)], args := [d] }
  | _ => none }
def QueueAllWrongFalsely : Prop := queueAllRow.holds Try.pinned (OpenSpec.ofChange queueAllWrong)

/-- 'trimtablaw08.StoreNone': WHATEVER THE INPUT: true; the input reads as it did. -/
def storeNoneSpec : ChangeSpec := { name := "storeNone", fn := fun _ => fun
  | [d1, d2, d3] => { results := [.lit (.bool true)], args := [d1, d2, d3] }
  | _ => none }
def storeNoneRow : OpenClaim := { program := "ytepihnpagpajeaa", sum := "026a8f732d41a96d1f56a2cab6b458eca9ed002561044211ee87342fec768ff6", func := "trimtab/trimtablaw08.StoreNone", spec := "storeNone", inPlace := ["maps.clone"], unfollowed := true, recurses := true, plainKeys := false, apart := false }
def StoreNoneSaid : Prop := storeNoneRow.holds Try.pinned (OpenSpec.ofChange storeNoneSpec)

/-- ITS FALSE NEIGHBOUR: 'it returns false'. Refute it at one input. -/
def storeNoneWrong : ChangeSpec := { name := "storeNone", fn := fun _ => fun
  | [d1, d2, d3] => { results := [.lit (.bool false)], args := [d1, d2, d3] }
  | _ => none }
def StoreNoneWrongFalsely : Prop := storeNoneRow.holds Try.pinned (OpenSpec.ofChange storeNoneWrong)

/-- 'trimtablaw08.StoreGone': WHATEVER THE INPUT: true; the input reads as it did. -/
def storeGoneSpec : ChangeSpec := { name := "storeGone", fn := fun _ => fun
  | [d] => { results := [.lit (.bool true)], args := [d] }
  | _ => none }
def storeGoneRow : OpenClaim := { program := "ytepihnpagpajeaa", sum := "026a8f732d41a96d1f56a2cab6b458eca9ed002561044211ee87342fec768ff6", func := "trimtab/trimtablaw08.StoreGone", spec := "storeGone", unfollowed := true, recurses := true, plainKeys := false, apart := false }
def StoreGoneSaid : Prop := storeGoneRow.holds Try.pinned (OpenSpec.ofChange storeGoneSpec)

/-- ITS FALSE NEIGHBOUR: 'it returns false'. Refute it at one input. -/
def storeGoneWrong : ChangeSpec := { name := "storeGone", fn := fun _ => fun
  | [d] => { results := [.lit (.bool false)], args := [d] }
  | _ => none }
def StoreGoneWrongFalsely : Prop := storeGoneRow.holds Try.pinned (OpenSpec.ofChange storeGoneWrong)

/-- 'trimtablaw08.StoreFollows': WHATEVER THE INPUT: true; the input reads as it did. -/
def storeFollowsSpec : ChangeSpec := { name := "storeFollows", fn := fun _ => fun
  | [d1, d2] => { results := [.lit (.bool true)], args := [d1, d2] }
  | _ => none }
def storeFollowsRow : OpenClaim := { program := "ytepihnpagpajeaa", sum := "026a8f732d41a96d1f56a2cab6b458eca9ed002561044211ee87342fec768ff6", func := "trimtab/trimtablaw08.StoreFollows", spec := "storeFollows", unfollowed := true, recurses := true, plainKeys := false, apart := false }
def StoreFollowsSaid : Prop := storeFollowsRow.holds Try.pinned (OpenSpec.ofChange storeFollowsSpec)

/-- ITS FALSE NEIGHBOUR: 'it returns false'. Refute it at one input. -/
def storeFollowsWrong : ChangeSpec := { name := "storeFollows", fn := fun _ => fun
  | [d1, d2] => { results := [.lit (.bool false)], args := [d1, d2] }
  | _ => none }
def StoreFollowsWrongFalsely : Prop := storeFollowsRow.holds Try.pinned (OpenSpec.ofChange storeFollowsWrong)

/-- 'trimtablaw41.MeterNodes': WHATEVER THE INPUT: true; the input reads as it did. -/
def meterNodesSpec : ChangeSpec := { name := "meterNodes", fn := fun _ => fun
  | [d1, d2, d3, d4] => { results := [.lit (.bool true)], args := [d1, d2, d3, d4] }
  | _ => none }
def meterNodesRow : OpenClaim := { program := "ytepihnpagpajeaa", sum := "026a8f732d41a96d1f56a2cab6b458eca9ed002561044211ee87342fec768ff6", func := "trimtab/trimtablaw41.MeterNodes", spec := "meterNodes", inPlace := ["math/bits.Add64"], unfollowed := true, recurses := true, plainKeys := false, apart := false }
def MeterNodesSaid : Prop := meterNodesRow.holds Try.pinned (OpenSpec.ofChange meterNodesSpec)

/-- ITS FALSE NEIGHBOUR: 'it returns false'. Refute it at one input. -/
def meterNodesWrong : ChangeSpec := { name := "meterNodes", fn := fun _ => fun
  | [d1, d2, d3, d4] => { results := [.lit (.bool false)], args := [d1, d2, d3, d4] }
  | _ => none }
def MeterNodesWrongFalsely : Prop := meterNodesRow.holds Try.pinned (OpenSpec.ofChange meterNodesWrong)

/-- 'trimtablaw14.PodsPass': WHATEVER THE INPUT: true; the input reads as it did. -/
def podsPassSpec : ChangeSpec := { name := "podsPass", fn := fun _ => fun
  | [d1, d2] => { results := [.lit (.bool true)], args := [d1, d2] }
  | _ => none }
def podsPassRow : OpenClaim := { program := "ytepihnpagpajeaa", sum := "026a8f732d41a96d1f56a2cab6b458eca9ed002561044211ee87342fec768ff6", func := "trimtab/trimtablaw14.PodsPass", spec := "podsPass", inPlace := ["maps.clone"], unfollowed := true, recurses := true, plainKeys := false, apart := false }
def PodsPassSaid : Prop := podsPassRow.holds Try.pinned (OpenSpec.ofChange podsPassSpec)

/-- ITS FALSE NEIGHBOUR: 'it returns false'. Refute it at one input. -/
def podsPassWrong : ChangeSpec := { name := "podsPass", fn := fun _ => fun
  | [d1, d2] => { results := [.lit (.bool false)], args := [d1, d2] }
  | _ => none }
def PodsPassWrongFalsely : Prop := podsPassRow.holds Try.pinned (OpenSpec.ofChange podsPassWrong)

/- THE SECOND FORM. 'bulk': how many values and letters a reading holds, each counted each time it is reached (what is shared counts as often as it is met; a slice's spare places count too). A statement '..UptoSaid' is the law's where the arguments, and the package variables that the reading takes, are together of bulk at most 1048576: NARROWER than '..Said'. Prove '..Said' where nothing that the law and all that it calls make is longer than what came in: it says more and counts as full. Else prove '..UptoSaid'. A law counts once. -/
mutual
def uptoBulk {H : Type} : DataW H → Nat
  | .lit (.string bytes) => bytes.length + 1
  | .lit _ => 1
  | .nil => 1
  | .ptr d => uptoBulk d + 1
  | .slice elems spare => uptoBulkAll elems + uptoBulkAll spare + 1
  | .agg parts => uptoBulkAll parts + 1
  | .iface _ d => uptoBulk d + 1
  | .map entries => uptoBulkEntries entries + 1
  | .held _ => 1
def uptoBulkAll {H : Type} : List (DataW H) → Nat
  | [] => 0
  | d :: r => uptoBulk d + uptoBulkAll r
def uptoBulkEntries {H : Type} : List (Lit × DataW H) → Nat
  | [] => 0
  | x :: r => uptoBulkEntry x + uptoBulkEntries r
def uptoBulkEntry {H : Type} : Lit × DataW H → Nat
  | (.string bytes, d) => bytes.length + uptoBulk d + 1
  | (_, d) => uptoBulk d + 1
 end
def uptoSmall : (H : Type) → List (DataW H) → Bool := fun _ ds => decide (uptoBulkAll ds ≤ 1048576)
def OpenSpec.upto (s : _root_.Go.ChangeSpec) : _root_.Go.OpenSpec := { _root_.Go.OpenSpec.ofChange s with cond := some uptoSmall }

/-- 'trimtablaw41.MeterNone', WHERE WHAT IT READS IS OF BULK AT MOST 1048576: true; the input reads as it did. -/
def meterNoneUptoRow : OpenClaim := { program := "ytepihnpagpajeaa", sum := "026a8f732d41a96d1f56a2cab6b458eca9ed002561044211ee87342fec768ff6", func := "trimtab/trimtablaw41.MeterNone", spec := "meterNone", inPlace := ["math/bits.Add64"], unfollowed := true, recurses := true, plainKeys := false, apart := false, narrowed := true }
def MeterNoneUptoSaid : Prop := meterNoneUptoRow.holds Try.pinned (OpenSpec.upto meterNoneSpec)

/-- 'trimtablaw37.QueueNone', WHERE WHAT IT READS IS OF BULK AT MOST 1048576: true; the input reads as it did. -/
def queueNoneUptoRow : OpenClaim := { program := "ytepihnpagpajeaa", sum := "026a8f732d41a96d1f56a2cab6b458eca9ed002561044211ee87342fec768ff6", func := "trimtab/trimtablaw37.QueueNone", spec := "queueNone", inPlace := ["maps.clone"], unfollowed := true, recurses := true, plainKeys := false, apart := false, narrowed := true }
def QueueNoneUptoSaid : Prop := queueNoneUptoRow.holds Try.pinned (OpenSpec.upto queueNoneSpec)

/-- 'trimtablaw37.QueueAll', WHERE WHAT IT READS IS OF BULK AT MOST 1048576: true; the input reads as it did. -/
def queueAllUptoRow : OpenClaim := { program := "ytepihnpagpajeaa", sum := "026a8f732d41a96d1f56a2cab6b458eca9ed002561044211ee87342fec768ff6", func := "trimtab/trimtablaw37.QueueAll", spec := "queueAll", unfollowed := true, recurses := true, plainKeys := false, apart := false, narrowed := true }
def QueueAllUptoSaid : Prop := queueAllUptoRow.holds Try.pinned (OpenSpec.upto queueAllSpec)

/-- 'trimtablaw08.StoreNone', WHERE WHAT IT READS IS OF BULK AT MOST 1048576: true; the input reads as it did. -/
def storeNoneUptoRow : OpenClaim := { program := "ytepihnpagpajeaa", sum := "026a8f732d41a96d1f56a2cab6b458eca9ed002561044211ee87342fec768ff6", func := "trimtab/trimtablaw08.StoreNone", spec := "storeNone", inPlace := ["maps.clone"], unfollowed := true, recurses := true, plainKeys := false, apart := false, narrowed := true }
def StoreNoneUptoSaid : Prop := storeNoneUptoRow.holds Try.pinned (OpenSpec.upto storeNoneSpec)

/-- 'trimtablaw08.StoreGone', WHERE WHAT IT READS IS OF BULK AT MOST 1048576: true; the input reads as it did. -/
def storeGoneUptoRow : OpenClaim := { program := "ytepihnpagpajeaa", sum := "026a8f732d41a96d1f56a2cab6b458eca9ed002561044211ee87342fec768ff6", func := "trimtab/trimtablaw08.StoreGone", spec := "storeGone", unfollowed := true, recurses := true, plainKeys := false, apart := false, narrowed := true }
def StoreGoneUptoSaid : Prop := storeGoneUptoRow.holds Try.pinned (OpenSpec.upto storeGoneSpec)

/-- 'trimtablaw08.StoreFollows', WHERE WHAT IT READS IS OF BULK AT MOST 1048576: true; the input reads as it did. -/
def storeFollowsUptoRow : OpenClaim := { program := "ytepihnpagpajeaa", sum := "026a8f732d41a96d1f56a2cab6b458eca9ed002561044211ee87342fec768ff6", func := "trimtab/trimtablaw08.StoreFollows", spec := "storeFollows", unfollowed := true, recurses := true, plainKeys := false, apart := false, narrowed := true }
def StoreFollowsUptoSaid : Prop := storeFollowsUptoRow.holds Try.pinned (OpenSpec.upto storeFollowsSpec)

/-- 'trimtablaw41.MeterNodes', WHERE WHAT IT READS IS OF BULK AT MOST 1048576: true; the input reads as it did. -/
def meterNodesUptoRow : OpenClaim := { program := "ytepihnpagpajeaa", sum := "026a8f732d41a96d1f56a2cab6b458eca9ed002561044211ee87342fec768ff6", func := "trimtab/trimtablaw41.MeterNodes", spec := "meterNodes", inPlace := ["math/bits.Add64"], unfollowed := true, recurses := true, plainKeys := false, apart := false, narrowed := true }
def MeterNodesUptoSaid : Prop := meterNodesUptoRow.holds Try.pinned (OpenSpec.upto meterNodesSpec)

/-- 'trimtablaw14.PodsPass', WHERE WHAT IT READS IS OF BULK AT MOST 1048576: true; the input reads as it did. -/
def podsPassUptoRow : OpenClaim := { program := "ytepihnpagpajeaa", sum := "026a8f732d41a96d1f56a2cab6b458eca9ed002561044211ee87342fec768ff6", func := "trimtab/trimtablaw14.PodsPass", spec := "podsPass", inPlace := ["maps.clone"], unfollowed := true, recurses := true, plainKeys := false, apart := false, narrowed := true }
def PodsPassUptoSaid : Prop := podsPassUptoRow.holds Try.pinned (OpenSpec.upto podsPassSpec)

end Rows
end Go.Proofs.Ytepihnpagpajeaa
