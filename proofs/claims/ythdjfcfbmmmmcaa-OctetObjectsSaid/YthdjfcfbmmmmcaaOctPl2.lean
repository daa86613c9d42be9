/-
  The codecs of the object's parts.
-/
import Derived.Test.YthdjfcfbmmmmcaaOctPl
import Derived.Test.YthdjfcfbmmmmcaaObj
namespace Go.Proofs.Ythdjfcfbmmmmcaa
open Go.Proofs.Mem
set_option linter.unusedVariables false
def i64ok (z : Int) : Prop := -9223372036854775808 ≤ z ∧ z ≤ 9223372036854775807
def eInt (z : Int) : List UInt8 := putL (u64 z) 8
def dInt : Dec Int := fun bs => (dNum 8 bs).map fun p => (if p.1 < 9223372036854775808 then (p.1 : Int) else (p.1 : Int) - 18446744073709551616, p.2)
theorem codec_i : Codec eInt i64ok dInt := codec_int
def eStr (s : ByteArray) : List UInt8 := putL s.size 1 ++ s.data.toList
def dStr : Dec ByteArray := fun bs => (dText bs).map fun p => (⟨p.1.toArray⟩, p.2)
def s256 (s : ByteArray) : Prop := s.size < 256
theorem codec_s : Codec eStr s256 dStr := by
  refine codec_iso codec_text (fun l => (⟨l.toArray⟩ : ByteArray)) (fun s : ByteArray => s.data.toList) s256 (fun y hy => ⟨rfl, ?_⟩) (fun x hx => ⟨rfl, ?_⟩)
  · show y.data.toList.length < 256
    exact hy
  · show x.length < 256
    exact hx
def eTru (b : Bool) : List UInt8 := putL (if b then 1 else 0) 1
def dTru : Dec Bool := fun bs => ((dNum 1 bs).filter fun q => decide (q.1 ≤ 1)).map fun p => (decide (p.1 = 1), p.2)
theorem codec_b : Codec eTru (fun _ => True) dTru := codec_truth
def eLab (x : Lab) : List UInt8 := eStr x.key ++ eStr x.value
def dLab : Dec Lab := fun bs => (dPair dStr dStr bs).map fun p => (⟨p.1.1, p.1.2⟩, p.2)
def okLab (x : Lab) : Prop := s256 x.key ∧ s256 x.value
theorem codec_lab : Codec eLab okLab dLab :=
  codec_iso (codec_pair codec_s codec_s) (fun p => Lab.mk p.1 p.2) (fun x => (x.key, x.value)) okLab (fun y hy => ⟨rfl, hy⟩) (fun x hx => ⟨rfl, hx⟩)
def eReq (x : Req) : List UInt8 := eStr x.key ++ (eStr x.value ++ eInt x.op)
def dReq : Dec Req := fun bs => (dPair dStr (dPair dStr dInt) bs).map fun p => (⟨p.1.1, p.1.2.1, p.1.2.2⟩, p.2)
def okReq (x : Req) : Prop := s256 x.key ∧ s256 x.value ∧ i64ok x.op
theorem codec_req : Codec eReq okReq dReq :=
  codec_iso (codec_pair codec_s (codec_pair codec_s codec_i)) (fun p => Req.mk p.1 p.2.1 p.2.2) (fun x => (x.key, x.value, x.op)) okReq (fun y hy => ⟨rfl, hy⟩) (fun x hx => ⟨rfl, hx⟩)
def eMet (x : Mem.Met) : List UInt8 := eInt x.kind ++ (eStr x.name ++ eInt x.target)
def dMet : Dec Mem.Met := fun bs => (dPair dInt (dPair dStr dInt) bs).map fun p => (⟨p.1.1, p.1.2.1, p.1.2.2⟩, p.2)
def okMet (x : Mem.Met) : Prop := i64ok x.kind ∧ s256 x.name ∧ i64ok x.target
theorem codec_met : Codec eMet okMet dMet :=
  codec_iso (codec_pair codec_i (codec_pair codec_s codec_i)) (fun p => Mem.Met.mk p.1 p.2.1 p.2.2) (fun x => (x.kind, x.name, x.target)) okMet (fun y hy => ⟨rfl, hy⟩) (fun x hx => ⟨rfl, hx⟩)
def ePol (x : Pol) : List UInt8 := eTru x.pct ++ (eInt x.value ++ eInt x.period)
def dPol : Dec Pol := fun bs => (dPair dTru (dPair dInt dInt) bs).map fun p => (⟨p.1.1, p.1.2.1, p.1.2.2⟩, p.2)
def okPol (x : Pol) : Prop := True ∧ i64ok x.value ∧ i64ok x.period
theorem codec_pol : Codec ePol okPol dPol :=
  codec_iso (codec_pair codec_b (codec_pair codec_i codec_i)) (fun p => Pol.mk p.1 p.2.1 p.2.2) (fun x => (x.pct, x.value, x.period)) okPol (fun y hy => ⟨rfl, hy⟩) (fun x hx => ⟨rfl, hx⟩)
def eDone (x : Done) : List UInt8 := eInt x.at' ++ (eInt x.from' ++ eInt x.to')
def dDone : Dec Done := fun bs => (dPair dInt (dPair dInt dInt) bs).map fun p => (⟨p.1.1, p.1.2.1, p.1.2.2⟩, p.2)
def okDone (x : Done) : Prop := i64ok x.at' ∧ i64ok x.from' ∧ i64ok x.to'
theorem codec_done : Codec eDone okDone dDone :=
  codec_iso (codec_pair codec_i (codec_pair codec_i codec_i)) (fun p => Done.mk p.1 p.2.1 p.2.2) (fun x => (x.at', x.from', x.to')) okDone (fun y hy => ⟨rfl, hy⟩) (fun x hx => ⟨rfl, hx⟩)
def eRow {α : Type} (e : α → List UInt8) (l : List α) : List UInt8 := putL l.length 1 ++ l.flatMap e
def okRow {α : Type} (o : α → Prop) (l : List α) : Prop := l.length < 256 ∧ ∀ x ∈ l, o x
def dRows {α : Type} (d : Dec α) : Dec (List α) := (dNum 1).then (dRow d)
theorem codec_r {α : Type} {e : α → List UInt8} {o : α → Prop} {d : Dec α} (h : Codec e o d) : Codec (eRow e) (okRow o) (dRows d) := codec_rows h
end Go.Proofs.Ythdjfcfbmmmmcaa
