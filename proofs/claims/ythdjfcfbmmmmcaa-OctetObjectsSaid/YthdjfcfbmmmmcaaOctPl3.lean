/-
  The codecs of the five shapes, as plain tuples. (printed by wip/gen_octpl3.py)
-/
import Derived.Test.YthdjfcfbmmmmcaaOctPl2
namespace Go.Proofs.Ythdjfcfbmmmmcaa
open Go.Proofs.Mem
set_option linter.unusedVariables false
def eLabs := eRow eLab
def eReqs := eRow eReq
def dLabs : Dec (List Lab) := dRows dLab
def dReqs : Dec (List Req) := dRows dReq
def okLabs := okRow okLab
def okReqs := okRow okReq
theorem codec_labs : Codec eLabs okLabs dLabs := codec_r codec_lab
theorem codec_reqs : Codec eReqs okReqs dReqs := codec_r codec_req
/-- replicas, cpu, mem, labels, select, tolerate, warm -/
abbrev TWl := (Int) × (Int) × (Int) × (List Lab) × (List Req) × (List Lab) × (Int)
def eWl (x : TWl) : List UInt8 := eInt x.1 ++ (eInt x.2.1 ++ (eInt x.2.2.1 ++ (eLabs x.2.2.2.1 ++ (eReqs x.2.2.2.2.1 ++ (eLabs x.2.2.2.2.2.1 ++ (eInt x.2.2.2.2.2.2))))))
def okWl (x : TWl) : Prop := i64ok x.1 ∧ (i64ok x.2.1 ∧ (i64ok x.2.2.1 ∧ (okLabs x.2.2.2.1 ∧ (okReqs x.2.2.2.2.1 ∧ (okLabs x.2.2.2.2.2.1 ∧ (i64ok x.2.2.2.2.2.2))))))
def dWl : Dec TWl := dPair dInt (dPair dInt (dPair dInt (dPair dLabs (dPair dReqs (dPair dLabs (dInt))))))
theorem codec_wl : Codec eWl okWl dWl := codec_pair codec_i (codec_pair codec_i (codec_pair codec_i (codec_pair codec_labs (codec_pair codec_reqs (codec_pair codec_labs (codec_i))))))
/-- owner, node, phase, since, cpu, mem, labels, select, tolerate, warm -/
abbrev TPd := (ByteArray) × (ByteArray) × (Int) × (Int) × (Int) × (Int) × (List Lab) × (List Req) × (List Lab) × (Int)
def ePd (x : TPd) : List UInt8 := eStr x.1 ++ (eStr x.2.1 ++ (eInt x.2.2.1 ++ (eInt x.2.2.2.1 ++ (eInt x.2.2.2.2.1 ++ (eInt x.2.2.2.2.2.1 ++ (eLabs x.2.2.2.2.2.2.1 ++ (eReqs x.2.2.2.2.2.2.2.1 ++ (eLabs x.2.2.2.2.2.2.2.2.1 ++ (eInt x.2.2.2.2.2.2.2.2.2)))))))))
def okPd (x : TPd) : Prop := s256 x.1 ∧ (s256 x.2.1 ∧ (i64ok x.2.2.1 ∧ (i64ok x.2.2.2.1 ∧ (i64ok x.2.2.2.2.1 ∧ (i64ok x.2.2.2.2.2.1 ∧ (okLabs x.2.2.2.2.2.2.1 ∧ (okReqs x.2.2.2.2.2.2.2.1 ∧ (okLabs x.2.2.2.2.2.2.2.2.1 ∧ (i64ok x.2.2.2.2.2.2.2.2.2)))))))))
def dPd : Dec TPd := dPair dStr (dPair dStr (dPair dInt (dPair dInt (dPair dInt (dPair dInt (dPair dLabs (dPair dReqs (dPair dLabs (dInt)))))))))
theorem codec_pd : Codec ePd okPd dPd := codec_pair codec_s (codec_pair codec_s (codec_pair codec_i (codec_pair codec_i (codec_pair codec_i (codec_pair codec_i (codec_pair codec_labs (codec_pair codec_reqs (codec_pair codec_labs (codec_i)))))))))
/-- group, cpu, mem, labels, taints, since, closed -/
abbrev TNd := (ByteArray) × (Int) × (Int) × (List Lab) × (List Lab) × (Int) × (Bool)
def eNd (x : TNd) : List UInt8 := eStr x.1 ++ (eInt x.2.1 ++ (eInt x.2.2.1 ++ (eLabs x.2.2.2.1 ++ (eLabs x.2.2.2.2.1 ++ (eInt x.2.2.2.2.2.1 ++ (eTru x.2.2.2.2.2.2))))))
def okNd (x : TNd) : Prop := s256 x.1 ∧ (i64ok x.2.1 ∧ (i64ok x.2.2.1 ∧ (okLabs x.2.2.2.1 ∧ (okLabs x.2.2.2.2.1 ∧ (i64ok x.2.2.2.2.2.1 ∧ ((fun _ => True) x.2.2.2.2.2.2))))))
def dNd : Dec TNd := dPair dStr (dPair dInt (dPair dInt (dPair dLabs (dPair dLabs (dPair dInt (dTru))))))
theorem codec_nd : Codec eNd okNd dNd := codec_pair codec_s (codec_pair codec_i (codec_pair codec_i (codec_pair codec_labs (codec_pair codec_labs (codec_pair codec_i (codec_b))))))
/-- min, max, target, cpu, mem, labels, taints, priority -/
abbrev TGr := (Int) × (Int) × (Int) × (Int) × (Int) × (List Lab) × (List Lab) × (Int)
def eGr (x : TGr) : List UInt8 := eInt x.1 ++ (eInt x.2.1 ++ (eInt x.2.2.1 ++ (eInt x.2.2.2.1 ++ (eInt x.2.2.2.2.1 ++ (eLabs x.2.2.2.2.2.1 ++ (eLabs x.2.2.2.2.2.2.1 ++ (eInt x.2.2.2.2.2.2.2)))))))
def okGr (x : TGr) : Prop := i64ok x.1 ∧ (i64ok x.2.1 ∧ (i64ok x.2.2.1 ∧ (i64ok x.2.2.2.1 ∧ (i64ok x.2.2.2.2.1 ∧ (okLabs x.2.2.2.2.2.1 ∧ (okLabs x.2.2.2.2.2.2.1 ∧ (i64ok x.2.2.2.2.2.2.2)))))))
def dGr : Dec TGr := dPair dInt (dPair dInt (dPair dInt (dPair dInt (dPair dInt (dPair dLabs (dPair dLabs (dInt)))))))
theorem codec_gr : Codec eGr okGr dGr := codec_pair codec_i (codec_pair codec_i (codec_pair codec_i (codec_pair codec_i (codec_pair codec_i (codec_pair codec_labs (codec_pair codec_labs (codec_i)))))))
/-- window, pick, policies -/
abbrev TBh := (Int) × (Int) × (List Pol)
def eBh (x : TBh) : List UInt8 := eInt x.1 ++ (eInt x.2.1 ++ ((eRow ePol) x.2.2))
def okBh (x : TBh) : Prop := i64ok x.1 ∧ (i64ok x.2.1 ∧ ((okRow okPol) x.2.2))
def dBh : Dec TBh := dPair dInt (dPair dInt ((dRows dPol)))
theorem codec_bh : Codec eBh okBh dBh := codec_pair codec_i (codec_pair codec_i ((codec_r codec_pol)))
/-- target, min, max, metrics, tolerance, up, down, past -/
abbrev THp := (ByteArray) × (Int) × (Int) × (List Mem.Met) × (Int) × (TBh) × (TBh) × (List Done)
def eHp (x : THp) : List UInt8 := eStr x.1 ++ (eInt x.2.1 ++ (eInt x.2.2.1 ++ ((eRow eMet) x.2.2.2.1 ++ (eInt x.2.2.2.2.1 ++ (eBh x.2.2.2.2.2.1 ++ (eBh x.2.2.2.2.2.2.1 ++ ((eRow eDone) x.2.2.2.2.2.2.2)))))))
def okHp (x : THp) : Prop := s256 x.1 ∧ (i64ok x.2.1 ∧ (i64ok x.2.2.1 ∧ ((okRow okMet) x.2.2.2.1 ∧ (i64ok x.2.2.2.2.1 ∧ (okBh x.2.2.2.2.2.1 ∧ (okBh x.2.2.2.2.2.2.1 ∧ ((okRow okDone) x.2.2.2.2.2.2.2)))))))
def dHp : Dec THp := dPair dStr (dPair dInt (dPair dInt (dPair (dRows dMet) (dPair dInt (dPair dBh (dPair dBh ((dRows dDone))))))))
theorem codec_hp : Codec eHp okHp dHp := codec_pair codec_s (codec_pair codec_i (codec_pair codec_i (codec_pair (codec_r codec_met) (codec_pair codec_i (codec_pair codec_bh (codec_pair codec_bh ((codec_r codec_done))))))))
end Go.Proofs.Ythdjfcfbmmmmcaa
