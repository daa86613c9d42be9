/-
  The bytes of an object, as the reference says them: plain. (printed by wip/gen_obj.py)
-/
import Derived.Test.YthdjfcfbmmmmcaaRef6c
namespace Go.Proofs.Ythdjfcfbmmmmcaa
open Go.RowKit Go.Proofs.Mem
set_option linter.unusedVariables false
set_option linter.unusedSimpArgs false
def headB (k : Nat) (name : ByteArray) (ver : Nat) : ByteArray := putB k 1 ++ textB name ++ putB ver 8
def wlB (a : ByteArray) (x : Wl) : ByteArray := a ++ putB (u64 x.replicas) 8 ++ resB x.cpu x.mem ++ labsB x.labels.l ++ reqsB x.select.l ++ labsB x.tolerate.l ++ putB (u64 x.warm) 8
def wlS (x : Wl) : Prop := LabsS x.labels.l ∧ ReqsS x.select.l ∧ LabsS x.tolerate.l
def pdB (a : ByteArray) (x : Pd) : ByteArray := a ++ textB x.owner ++ textB x.node ++ putB (u64 x.phase) 8 ++ putB (u64 x.since) 8 ++ resB x.cpu x.mem ++ labsB x.labels.l ++ reqsB x.select.l ++ labsB x.tolerate.l ++ putB (u64 x.warm) 8
def pdS (x : Pd) : Prop := s255 x.owner ∧ s255 x.node ∧ LabsS x.labels.l ∧ ReqsS x.select.l ∧ LabsS x.tolerate.l
def ndB (a : ByteArray) (x : Nd) : ByteArray := a ++ textB x.group ++ resB x.cpu x.mem ++ labsB x.labels.l ++ labsB x.taints.l ++ putB (u64 x.since) 8 ++ truthB x.closed
def ndS (x : Nd) : Prop := s255 x.group ∧ LabsS x.labels.l ∧ LabsS x.taints.l
def grB (a : ByteArray) (x : Gr) : ByteArray := a ++ putB (u64 x.min) 8 ++ putB (u64 x.max) 8 ++ putB (u64 x.target) 8 ++ resB x.cpu x.mem ++ labsB x.labels.l ++ labsB x.taints.l ++ putB (u64 x.priority) 8
def grS (x : Gr) : Prop := LabsS x.labels.l ∧ LabsS x.taints.l
def hpB1 (a : ByteArray) (x : Hp) : ByteArray := metF (a ++ textB x.target ++ putB (u64 x.min) 8 ++ putB (u64 x.max) 8 ++ putB x.metrics.l.length 1) x.metrics.l
def hpB (a : ByteArray) (x : Hp) : ByteArray := doneF (hpB1 a x ++ putB (u64 x.tolerance) 8 ++ bhB x.up ++ bhB x.down ++ putB x.past.l.length 1) x.past.l
def HpS (x : Hp) : Prop := s255 x.target ∧ x.metrics.l.length ≤ 255 ∧ (∀ m ∈ x.metrics.l, metSx m) ∧ BhS x.up ∧ BhS x.down ∧ x.past.l.length ≤ 255
def objB (o : Ob) : ByteArray :=
  if o.kind = 0 then wlB (headB o.kind.toNat o.name o.version.toNat) o.w
  else if o.kind = 1 then pdB (headB o.kind.toNat o.name o.version.toNat) o.p
  else if o.kind = 2 then ndB (headB o.kind.toNat o.name o.version.toNat) o.n
  else if o.kind = 3 then grB (headB o.kind.toNat o.name o.version.toNat) o.g
  else hpB (headB o.kind.toNat o.name o.version.toNat) o.h
theorem u64_nat {z : Int} (h : wfi .u64 z) : ∃ n : Nat, n ≤ 18446744073709551615 ∧ z = n := by
  have h' : 0 ≤ z ∧ z ≤ 18446744073709551615 := by simpa [wfi, Lit.wf, IntKind.min, IntKind.max, IntKind.signed, IntKind.bits] using h
  exact ⟨z.toNat, by omega, by omega⟩
end Go.Proofs.Ythdjfcfbmmmmcaa
