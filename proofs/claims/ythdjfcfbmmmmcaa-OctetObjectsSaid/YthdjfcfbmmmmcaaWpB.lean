/-
  Writing the five shapes with a writer. (printed by wip/gen_wp5.py) Writing an object: the shape of its kind, and Writer.Object. (printed by wip/gen_wp6.py) The walk of Writer.Object: an object is written behind what was written, or it is told why not.
-/
import Derived.Test.YthdjfcfbmmmmcaaWp4
import Derived.Test.YthdjfcfbmmmmcaaRp7
import Derived.Test.YthdjfcfbmmmmcaaBig
namespace Go.Proofs.Ythdjfcfbmmmmcaa
open Go.RowKit Go.Proofs.Mem
set_option linter.unusedVariables false
set_option linter.unusedSimpArgs false
theorem WD.assoc {p fb : Nat} {r r1 : Option Nat} {bs bs1 o1 o2 o3 : List UInt8} {lg lg1 : Bool} {w w1 : World} {a b c : Prop} {K : Nat} (h : WD p r fb bs lg w ((a ∧ b) ∧ c) ((o1 ++ o2) ++ o3) K r1 bs1 lg1 w1) : WD p r fb bs lg w (a ∧ (b ∧ c)) (o1 ++ (o2 ++ o3)) K r1 bs1 lg1 w1 :=
  h.conv and_assoc (List.append_assoc ..) (Nat.le_refl _)
def fewBh (x : Bh) : Prop := x.policies.l.length ≤ 300
set_option maxHeartbeats 1000000 in
set_option maxRecDepth 100000 in
theorem bh_wr {W w : World} {p fb t : Nat} {r : Option Nat} {ty : TypeId} {cs : Array Value} {bs : List UInt8} {lg : Bool} {N : Nat} (h : WPre W w p r fb t ty cs bs lg N) (hN : N ≤ 80000000) (o : Nat) (x : Bh) (hc : ∀ i, i < 3 → cs[o + i]? = (Bh.cells x)[i]?) (hx : x.Ok W) (hf : fewBh x) :
    Calls Try.prog 54 #[.pointer (some ⟨fb, 0, none⟩), .pointer (some ⟨t, o, none⟩)] w (WPost p r fb bs lg w (okBh (Bh.tup x)) (eBh (Bh.tup x)) 5117) := by
  have H0 := Lib.hid h
  have HC := Lib.hid hc
  have HX := Lib.hid hx
  have HFw := Lib.hid hf
  clear h hc hx hf
  go_enter Try.func54, Try.ntmps54
  go_wp2_with fail
  refine (numI_wr H0.out (by omega) (o) x.window ((HC.out 0 (by omega)).trans rfl) HX.out.window).mono ?_
  rintro e w1 ⟨rfl, r1, bs1, lg1, D1⟩
  have H1 := Lib.hid (H0.out.next D1)
  have E1 := Lib.hid D1
  clear D1
  go_wp2_with fail
  refine (numI_wr H1.out (by omega) (o + 1) x.pick ((HC.out 1 (by omega)).trans rfl) HX.out.pick).mono ?_
  rintro e w2 ⟨rfl, r2, bs2, lg2, D2⟩
  have H2 := Lib.hid (H1.out.next D2)
  have E2 := Lib.hid D2
  clear D2
  go_wp2_with fail
  refine (rowPol_wr H2.out (by omega) (o + 2) x.policies ((HC.out 2 (by omega)).trans rfl) HX.out.policies HFw.out).mono ?_
  rintro e w3 ⟨rfl, r3, bs3, lg3, D3⟩
  have H3 := Lib.hid (H2.out.next D3)
  have E3 := Lib.hid D3
  clear D3
  go_wp2_with fail
  have HF := Lib.hid (show WPost p r fb bs lg w (okBh (Bh.tup x)) (eBh (Bh.tup x)) 5117 (.returned (.tuple #[])) w3 from ⟨rfl, r3, bs3, lg3, WD.conv (E1.out.pair (E2.out.pair E3.out)) Iff.rfl rfl (by omega)⟩)
  exact bodyPost_end (results_none rfl _ _ _) rfl HF.out
def fewWl (x : Wl) : Prop := x.labels.l.length ≤ 300 ∧ x.select.l.length ≤ 300 ∧ x.tolerate.l.length ≤ 300
set_option maxHeartbeats 1000000 in
set_option maxRecDepth 100000 in
theorem wl_wr {W w : World} {p fb t : Nat} {r : Option Nat} {ty : TypeId} {cs : Array Value} {bs : List UInt8} {lg : Bool} {N : Nat} (h : WPre W w p r fb t ty cs bs lg N) (hN : N ≤ 70000000) (o : Nat) (x : Wl) (hc : ∀ i, i < 7 → cs[o + i]? = (Wl.cells x)[i]?) (hx : x.Ok W) (hf : fewWl x) :
    Calls Try.prog 37 #[.pointer (some ⟨fb, 0, none⟩), .pointer (some ⟨t, o, none⟩)] w (WPost p r fb bs lg w (okWl (Wl.tup x)) (eWl (Wl.tup x)) 463235) := by
  have H0 := Lib.hid h
  have HC := Lib.hid hc
  have HX := Lib.hid hx
  have HFw := Lib.hid hf
  clear h hc hx hf
  go_enter Try.func37, Try.ntmps37
  go_wp2_with fail
  refine (numI_wr H0.out (by omega) (o) x.replicas ((HC.out 0 (by omega)).trans rfl) HX.out.replicas).mono ?_
  rintro e w1 ⟨rfl, r1, bs1, lg1, D1⟩
  have H1 := Lib.hid (H0.out.next D1)
  have E1 := Lib.hid D1
  clear D1
  go_wp2_with fail
  refine (res_wr H1.out (by omega) (o + 1) x.cpu x.mem ((HC.out 1 (by omega)).trans rfl) ((HC.out 2 (by omega)).trans rfl) HX.out.cpu HX.out.mem).mono ?_
  rintro e w2 ⟨rfl, r2, bs2, lg2, D2⟩
  have H2 := Lib.hid (H1.out.next D2)
  have E2 := Lib.hid D2
  clear D2
  go_wp2_with fail
  refine (rowLab_wr H2.out (by omega) (o + 3) x.labels ((HC.out 3 (by omega)).trans rfl) HX.out.labels HFw.out.1).mono ?_
  rintro e w3 ⟨rfl, r3, bs3, lg3, D3⟩
  have H3 := Lib.hid (H2.out.next D3)
  have E3 := Lib.hid D3
  clear D3
  go_wp2_with fail
  refine (rowReq_wr H3.out (by omega) (o + 4) x.select ((HC.out 4 (by omega)).trans rfl) HX.out.select HFw.out.2.1).mono ?_
  rintro e w4 ⟨rfl, r4, bs4, lg4, D4⟩
  have H4 := Lib.hid (H3.out.next D4)
  have E4 := Lib.hid D4
  clear D4
  go_wp2_with fail
  refine (rowLab_wr H4.out (by omega) (o + 5) x.tolerate ((HC.out 5 (by omega)).trans rfl) HX.out.tolerate HFw.out.2.2).mono ?_
  rintro e w5 ⟨rfl, r5, bs5, lg5, D5⟩
  have H5 := Lib.hid (H4.out.next D5)
  have E5 := Lib.hid D5
  clear D5
  go_wp2_with fail
  refine (numI_wr H5.out (by omega) (o + 6) x.warm ((HC.out 6 (by omega)).trans rfl) HX.out.warm).mono ?_
  rintro e w6 ⟨rfl, r6, bs6, lg6, D6⟩
  have H6 := Lib.hid (H5.out.next D6)
  have E6 := Lib.hid D6
  clear D6
  go_wp2_with fail
  have HF := Lib.hid (show WPost p r fb bs lg w (okWl (Wl.tup x)) (eWl (Wl.tup x)) 463235 (.returned (.tuple #[])) w6 from ⟨rfl, r6, bs6, lg6, WD.conv (E1.out.pair (WD.assoc (E2.out.pair (E3.out.pair (E4.out.pair (E5.out.pair E6.out)))))) Iff.rfl rfl (by omega)⟩)
  exact bodyPost_end (results_none rfl _ _ _) rfl HF.out
def fewPd (x : Pd) : Prop := x.labels.l.length ≤ 300 ∧ x.select.l.length ≤ 300 ∧ x.tolerate.l.length ≤ 300
set_option maxHeartbeats 1000000 in
set_option maxRecDepth 100000 in
theorem pd_wr {W w : World} {p fb t : Nat} {r : Option Nat} {ty : TypeId} {cs : Array Value} {bs : List UInt8} {lg : Bool} {N : Nat} (h : WPre W w p r fb t ty cs bs lg N) (hN : N ≤ 70000000) (o : Nat) (x : Pd) (hc : ∀ i, i < 10 → cs[o + i]? = (Pd.cells x)[i]?) (hx : x.Ok W) (hf : fewPd x) :
    Calls Try.prog 38 #[.pointer (some ⟨fb, 0, none⟩), .pointer (some ⟨t, o, none⟩)] w (WPost p r fb bs lg w (okPd (Pd.tup x)) (ePd (Pd.tup x)) 463755) := by
  have H0 := Lib.hid h
  have HC := Lib.hid hc
  have HX := Lib.hid hx
  have HFw := Lib.hid hf
  clear h hc hx hf
  go_enter Try.func38, Try.ntmps38
  go_wp2_with fail
  refine (text_wr H0.out (by omega) (o) x.owner ((HC.out 0 (by omega)).trans rfl) HX.out.owner).mono ?_
  rintro e w1 ⟨rfl, r1, bs1, lg1, D1⟩
  have H1 := Lib.hid (H0.out.next D1)
  have E1 := Lib.hid D1
  clear D1
  go_wp2_with fail
  refine (text_wr H1.out (by omega) (o + 1) x.node ((HC.out 1 (by omega)).trans rfl) HX.out.node).mono ?_
  rintro e w2 ⟨rfl, r2, bs2, lg2, D2⟩
  have H2 := Lib.hid (H1.out.next D2)
  have E2 := Lib.hid D2
  clear D2
  go_wp2_with fail
  refine (numI_wr H2.out (by omega) (o + 2) x.phase ((HC.out 2 (by omega)).trans rfl) HX.out.phase).mono ?_
  rintro e w3 ⟨rfl, r3, bs3, lg3, D3⟩
  have H3 := Lib.hid (H2.out.next D3)
  have E3 := Lib.hid D3
  clear D3
  go_wp2_with fail
  refine (numL_wr H3.out (by omega) (o + 3) x.since ((HC.out 3 (by omega)).trans rfl) HX.out.since).mono ?_
  rintro e w4 ⟨rfl, r4, bs4, lg4, D4⟩
  have H4 := Lib.hid (H3.out.next D4)
  have E4 := Lib.hid D4
  clear D4
  go_wp2_with fail
  refine (res_wr H4.out (by omega) (o + 4) x.cpu x.mem ((HC.out 4 (by omega)).trans rfl) ((HC.out 5 (by omega)).trans rfl) HX.out.cpu HX.out.mem).mono ?_
  rintro e w5 ⟨rfl, r5, bs5, lg5, D5⟩
  have H5 := Lib.hid (H4.out.next D5)
  have E5 := Lib.hid D5
  clear D5
  go_wp2_with fail
  refine (rowLab_wr H5.out (by omega) (o + 6) x.labels ((HC.out 6 (by omega)).trans rfl) HX.out.labels HFw.out.1).mono ?_
  rintro e w6 ⟨rfl, r6, bs6, lg6, D6⟩
  have H6 := Lib.hid (H5.out.next D6)
  have E6 := Lib.hid D6
  clear D6
  go_wp2_with fail
  refine (rowReq_wr H6.out (by omega) (o + 7) x.select ((HC.out 7 (by omega)).trans rfl) HX.out.select HFw.out.2.1).mono ?_
  rintro e w7 ⟨rfl, r7, bs7, lg7, D7⟩
  have H7 := Lib.hid (H6.out.next D7)
  have E7 := Lib.hid D7
  clear D7
  go_wp2_with fail
  refine (rowLab_wr H7.out (by omega) (o + 8) x.tolerate ((HC.out 8 (by omega)).trans rfl) HX.out.tolerate HFw.out.2.2).mono ?_
  rintro e w8 ⟨rfl, r8, bs8, lg8, D8⟩
  have H8 := Lib.hid (H7.out.next D8)
  have E8 := Lib.hid D8
  clear D8
  go_wp2_with fail
  refine (numI_wr H8.out (by omega) (o + 9) x.warm ((HC.out 9 (by omega)).trans rfl) HX.out.warm).mono ?_
  rintro e w9 ⟨rfl, r9, bs9, lg9, D9⟩
  have H9 := Lib.hid (H8.out.next D9)
  have E9 := Lib.hid D9
  clear D9
  go_wp2_with fail
  have HF := Lib.hid (show WPost p r fb bs lg w (okPd (Pd.tup x)) (ePd (Pd.tup x)) 463755 (.returned (.tuple #[])) w9 from ⟨rfl, r9, bs9, lg9, WD.conv (E1.out.pair (E2.out.pair (E3.out.pair (E4.out.pair (WD.assoc (E5.out.pair (E6.out.pair (E7.out.pair (E8.out.pair E9.out))))))))) Iff.rfl rfl (by omega)⟩)
  exact bodyPost_end (results_none rfl _ _ _) rfl HF.out
def fewNd (x : Nd) : Prop := x.labels.l.length ≤ 300 ∧ x.taints.l.length ≤ 300
set_option maxHeartbeats 1000000 in
set_option maxRecDepth 100000 in
theorem nd_wr {W w : World} {p fb t : Nat} {r : Option Nat} {ty : TypeId} {cs : Array Value} {bs : List UInt8} {lg : Bool} {N : Nat} (h : WPre W w p r fb t ty cs bs lg N) (hN : N ≤ 70000000) (o : Nat) (x : Nd) (hc : ∀ i, i < 7 → cs[o + i]? = (Nd.cells x)[i]?) (hx : x.Ok W) (hf : fewNd x) :
    Calls Try.prog 39 #[.pointer (some ⟨fb, 0, none⟩), .pointer (some ⟨t, o, none⟩)] w (WPost p r fb bs lg w (okNd (Nd.tup x)) (eNd (Nd.tup x)) 307483) := by
  have H0 := Lib.hid h
  have HC := Lib.hid hc
  have HX := Lib.hid hx
  have HFw := Lib.hid hf
  clear h hc hx hf
  go_enter Try.func39, Try.ntmps39
  go_wp2_with fail
  refine (text_wr H0.out (by omega) (o) x.group ((HC.out 0 (by omega)).trans rfl) HX.out.group).mono ?_
  rintro e w1 ⟨rfl, r1, bs1, lg1, D1⟩
  have H1 := Lib.hid (H0.out.next D1)
  have E1 := Lib.hid D1
  clear D1
  go_wp2_with fail
  refine (res_wr H1.out (by omega) (o + 1) x.cpu x.mem ((HC.out 1 (by omega)).trans rfl) ((HC.out 2 (by omega)).trans rfl) HX.out.cpu HX.out.mem).mono ?_
  rintro e w2 ⟨rfl, r2, bs2, lg2, D2⟩
  have H2 := Lib.hid (H1.out.next D2)
  have E2 := Lib.hid D2
  clear D2
  go_wp2_with fail
  refine (rowLab_wr H2.out (by omega) (o + 3) x.labels ((HC.out 3 (by omega)).trans rfl) HX.out.labels HFw.out.1).mono ?_
  rintro e w3 ⟨rfl, r3, bs3, lg3, D3⟩
  have H3 := Lib.hid (H2.out.next D3)
  have E3 := Lib.hid D3
  clear D3
  go_wp2_with fail
  refine (rowLab_wr H3.out (by omega) (o + 4) x.taints ((HC.out 4 (by omega)).trans rfl) HX.out.taints HFw.out.2).mono ?_
  rintro e w4 ⟨rfl, r4, bs4, lg4, D4⟩
  have H4 := Lib.hid (H3.out.next D4)
  have E4 := Lib.hid D4
  clear D4
  go_wp2_with fail
  refine (numL_wr H4.out (by omega) (o + 5) x.since ((HC.out 5 (by omega)).trans rfl) HX.out.since).mono ?_
  rintro e w5 ⟨rfl, r5, bs5, lg5, D5⟩
  have H5 := Lib.hid (H4.out.next D5)
  have E5 := Lib.hid D5
  clear D5
  go_wp2_with fail
  refine (truth_wr H5.out (by omega) (o + 6) x.closed ((HC.out 6 (by omega)).trans rfl)).mono ?_
  rintro e w6 ⟨rfl, r6, bs6, lg6, D6⟩
  have H6 := Lib.hid (H5.out.next D6)
  have E6 := Lib.hid D6
  clear D6
  go_wp2_with fail
  have HF := Lib.hid (show WPost p r fb bs lg w (okNd (Nd.tup x)) (eNd (Nd.tup x)) 307483 (.returned (.tuple #[])) w6 from ⟨rfl, r6, bs6, lg6, WD.conv (E1.out.pair (WD.assoc (E2.out.pair (E3.out.pair (E4.out.pair (E5.out.pair E6.out)))))) Iff.rfl rfl (by omega)⟩)
  exact bodyPost_end (results_none rfl _ _ _) rfl HF.out
def fewGr (x : Gr) : Prop := x.labels.l.length ≤ 300 ∧ x.taints.l.length ≤ 300
set_option maxHeartbeats 1000000 in
set_option maxRecDepth 100000 in
theorem gr_wr {W w : World} {p fb t : Nat} {r : Option Nat} {ty : TypeId} {cs : Array Value} {bs : List UInt8} {lg : Bool} {N : Nat} (h : WPre W w p r fb t ty cs bs lg N) (hN : N ≤ 70000000) (o : Nat) (x : Gr) (hc : ∀ i, i < 8 → cs[o + i]? = (Gr.cells x)[i]?) (hx : x.Ok W) (hf : fewGr x) :
    Calls Try.prog 40 #[.pointer (some ⟨fb, 0, none⟩), .pointer (some ⟨t, o, none⟩)] w (WPost p r fb bs lg w (okGr (Gr.tup x)) (eGr (Gr.tup x)) 307250) := by
  have H0 := Lib.hid h
  have HC := Lib.hid hc
  have HX := Lib.hid hx
  have HFw := Lib.hid hf
  clear h hc hx hf
  go_enter Try.func40, Try.ntmps40
  go_wp2_with fail
  refine (numI_wr H0.out (by omega) (o) x.min ((HC.out 0 (by omega)).trans rfl) HX.out.min).mono ?_
  rintro e w1 ⟨rfl, r1, bs1, lg1, D1⟩
  have H1 := Lib.hid (H0.out.next D1)
  have E1 := Lib.hid D1
  clear D1
  go_wp2_with fail
  refine (numI_wr H1.out (by omega) (o + 1) x.max ((HC.out 1 (by omega)).trans rfl) HX.out.max).mono ?_
  rintro e w2 ⟨rfl, r2, bs2, lg2, D2⟩
  have H2 := Lib.hid (H1.out.next D2)
  have E2 := Lib.hid D2
  clear D2
  go_wp2_with fail
  refine (numI_wr H2.out (by omega) (o + 2) x.target ((HC.out 2 (by omega)).trans rfl) HX.out.target).mono ?_
  rintro e w3 ⟨rfl, r3, bs3, lg3, D3⟩
  have H3 := Lib.hid (H2.out.next D3)
  have E3 := Lib.hid D3
  clear D3
  go_wp2_with fail
  refine (res_wr H3.out (by omega) (o + 3) x.cpu x.mem ((HC.out 3 (by omega)).trans rfl) ((HC.out 4 (by omega)).trans rfl) HX.out.cpu HX.out.mem).mono ?_
  rintro e w4 ⟨rfl, r4, bs4, lg4, D4⟩
  have H4 := Lib.hid (H3.out.next D4)
  have E4 := Lib.hid D4
  clear D4
  go_wp2_with fail
  refine (rowLab_wr H4.out (by omega) (o + 5) x.labels ((HC.out 5 (by omega)).trans rfl) HX.out.labels HFw.out.1).mono ?_
  rintro e w5 ⟨rfl, r5, bs5, lg5, D5⟩
  have H5 := Lib.hid (H4.out.next D5)
  have E5 := Lib.hid D5
  clear D5
  go_wp2_with fail
  refine (rowLab_wr H5.out (by omega) (o + 6) x.taints ((HC.out 6 (by omega)).trans rfl) HX.out.taints HFw.out.2).mono ?_
  rintro e w6 ⟨rfl, r6, bs6, lg6, D6⟩
  have H6 := Lib.hid (H5.out.next D6)
  have E6 := Lib.hid D6
  clear D6
  go_wp2_with fail
  refine (numI_wr H6.out (by omega) (o + 7) x.priority ((HC.out 7 (by omega)).trans rfl) HX.out.priority).mono ?_
  rintro e w7 ⟨rfl, r7, bs7, lg7, D7⟩
  have H7 := Lib.hid (H6.out.next D7)
  have E7 := Lib.hid D7
  clear D7
  go_wp2_with fail
  have HF := Lib.hid (show WPost p r fb bs lg w (okGr (Gr.tup x)) (eGr (Gr.tup x)) 307250 (.returned (.tuple #[])) w7 from ⟨rfl, r7, bs7, lg7, WD.conv (E1.out.pair (E2.out.pair (E3.out.pair (WD.assoc (E4.out.pair (E5.out.pair (E6.out.pair E7.out))))))) Iff.rfl rfl (by omega)⟩)
  exact bodyPost_end (results_none rfl _ _ _) rfl HF.out
def fewHp (x : Hp) : Prop := x.metrics.l.length ≤ 300 ∧ x.up.policies.l.length ≤ 300 ∧ x.down.policies.l.length ≤ 300 ∧ x.past.l.length ≤ 300
set_option maxHeartbeats 1000000 in
set_option maxRecDepth 100000 in
theorem hp_wr {W w : World} {p fb t : Nat} {r : Option Nat} {ty : TypeId} {cs : Array Value} {bs : List UInt8} {lg : Bool} {N : Nat} (h : WPre W w p r fb t ty cs bs lg N) (hN : N ≤ 70000000) (o : Nat) (x : Hp) (hc : ∀ i, i < 12 → cs[o + i]? = (Hp.cells x)[i]?) (hx : x.Ok W) (hf : fewHp x) :
    Calls Try.prog 41 #[.pointer (some ⟨fb, 0, none⟩), .pointer (some ⟨t, o, none⟩)] w (WPost p r fb bs lg w (okHp (Hp.tup x)) (eHp (Hp.tup x)) 99316) := by
  have H0 := Lib.hid h
  have HC := Lib.hid hc
  have HX := Lib.hid hx
  have HFw := Lib.hid hf
  clear h hc hx hf
  go_enter Try.func41, Try.ntmps41
  go_wp2_with fail
  refine (text_wr H0.out (by omega) (o) x.target ((HC.out 0 (by omega)).trans rfl) HX.out.target).mono ?_
  rintro e w1 ⟨rfl, r1, bs1, lg1, D1⟩
  have H1 := Lib.hid (H0.out.next D1)
  have E1 := Lib.hid D1
  clear D1
  go_wp2_with fail
  refine (numI_wr H1.out (by omega) (o + 1) x.min ((HC.out 1 (by omega)).trans rfl) HX.out.min).mono ?_
  rintro e w2 ⟨rfl, r2, bs2, lg2, D2⟩
  have H2 := Lib.hid (H1.out.next D2)
  have E2 := Lib.hid D2
  clear D2
  go_wp2_with fail
  refine (numI_wr H2.out (by omega) (o + 2) x.max ((HC.out 2 (by omega)).trans rfl) HX.out.max).mono ?_
  rintro e w3 ⟨rfl, r3, bs3, lg3, D3⟩
  have H3 := Lib.hid (H2.out.next D3)
  have E3 := Lib.hid D3
  clear D3
  go_wp2_with fail
  refine (rowMet_wr H3.out (by omega) (o + 3) x.metrics ((HC.out 3 (by omega)).trans rfl) HX.out.metrics HFw.out.1).mono ?_
  rintro e w4 ⟨rfl, r4, bs4, lg4, D4⟩
  have H4 := Lib.hid (H3.out.next D4)
  have E4 := Lib.hid D4
  clear D4
  go_wp2_with fail
  refine (numI_wr H4.out (by omega) (o + 4) x.tolerance ((HC.out 4 (by omega)).trans rfl) HX.out.tolerance).mono ?_
  rintro e w5 ⟨rfl, r5, bs5, lg5, D5⟩
  have H5 := Lib.hid (H4.out.next D5)
  have E5 := Lib.hid D5
  clear D5
  go_wp2_with fail
  refine (bh_wr H5.out (by omega) (o + 5) x.up (fun i hi => by rcases i with _ | _ | _ | i <;> first | exact (HC.out 5 (by omega)).trans rfl | exact (HC.out 6 (by omega)).trans rfl | exact (HC.out 7 (by omega)).trans rfl | omega) HX.out.up HFw.out.2.1).mono ?_
  rintro e w6 ⟨rfl, r6, bs6, lg6, D6⟩
  have H6 := Lib.hid (H5.out.next D6)
  have E6 := Lib.hid D6
  clear D6
  go_wp2_with fail
  refine (bh_wr H6.out (by omega) (o + 8) x.down (fun i hi => by rcases i with _ | _ | _ | i <;> first | exact (HC.out 8 (by omega)).trans rfl | exact (HC.out 9 (by omega)).trans rfl | exact (HC.out 10 (by omega)).trans rfl | omega) HX.out.down HFw.out.2.2.1).mono ?_
  rintro e w7 ⟨rfl, r7, bs7, lg7, D7⟩
  have H7 := Lib.hid (H6.out.next D7)
  have E7 := Lib.hid D7
  clear D7
  go_wp2_with fail
  refine (rowDone_wr H7.out (by omega) (o + 11) x.past ((HC.out 11 (by omega)).trans rfl) HX.out.past HFw.out.2.2.2).mono ?_
  rintro e w8 ⟨rfl, r8, bs8, lg8, D8⟩
  have H8 := Lib.hid (H7.out.next D8)
  have E8 := Lib.hid D8
  clear D8
  go_wp2_with fail
  have HF := Lib.hid (show WPost p r fb bs lg w (okHp (Hp.tup x)) (eHp (Hp.tup x)) 99316 (.returned (.tuple #[])) w8 from ⟨rfl, r8, bs8, lg8, WD.conv (E1.out.pair (E2.out.pair (E3.out.pair (E4.out.pair (E5.out.pair (E6.out.pair (E7.out.pair E8.out))))))) Iff.rfl rfl (by omega)⟩)
  exact bodyPost_end (results_none rfl _ _ _) rfl HF.out
end Go.Proofs.Ythdjfcfbmmmmcaa
namespace Go.Proofs.Ythdjfcfbmmmmcaa
open Go.RowKit Go.Proofs.Mem
set_option linter.unusedVariables false
set_option linter.unusedSimpArgs false
/-- What the shape of kind k writes, with q its code: at any world under W. -/
def ShW (W : World) (L : Array Value) (k : Nat) (q : Shp) : Prop := ∀ (w : World) (p : Nat) (r : Option Nat) (fb t : Nat) (bs : List UInt8) (lg : Bool), WPre W w p r fb t 48 L bs lg 100000 →
  Calls Try.prog 22 #[.pointer (some ⟨fb, 0, none⟩), .pointer (some ⟨t, 0, none⟩)] w fun e w' => e = .returned (.bool true) ∧ ∃ r' bs' lg', WD p r fb bs lg w (okShp k q) (eShp q) 1000000 r' bs' lg' w'
set_option maxRecDepth 100000 in
theorem shw_wl {W : World} {L : Array Value} (x : Wl) (hk : L[0]? = some (.int .i64 0)) (hc : ∀ i, i < 7 → L[3 + i]? = (Wl.cells x)[i]?) (hx : x.Ok W) (hf : fewWl x) : ShW W L 0 (.wl (Wl.tup x)) := by
  intro w p r fb t bs lg h
  have c0 := h.tk.cell 0
  rw [hk] at c0
  have C := Lib.hid (wl_wr h (by omega) 3 x hc hx hf)
  clear h hk
  go_enter Try.func22, Try.ntmps22
  go_wp2_with fail
  refine C.out.mono ?_
  rintro e w1 ⟨rfl, r1, bs1, lg1, D1⟩
  have HF := Lib.hid (D1.conv (o2 := okShp 0 (.wl (Wl.tup x))) (by simp [okShp]) (out2 := eShp (.wl (Wl.tup x))) rfl (show _ ≤ 1000000 by omega))
  clear D1
  go_wp2_with fail
  exact bodyPost_ret (results_tmp rfl _ _ _) rfl ⟨rfl, r1, bs1, lg1, HF.out⟩
set_option maxRecDepth 100000 in
theorem shw_pd {W : World} {L : Array Value} (x : Pd) (hk : L[0]? = some (.int .i64 1)) (hc : ∀ i, i < 10 → L[10 + i]? = (Pd.cells x)[i]?) (hx : x.Ok W) (hf : fewPd x) : ShW W L 1 (.pd (Pd.tup x)) := by
  intro w p r fb t bs lg h
  have c0 := h.tk.cell 0
  rw [hk] at c0
  have C := Lib.hid (pd_wr h (by omega) 10 x hc hx hf)
  clear h hk
  go_enter Try.func22, Try.ntmps22
  go_wp2_with fail
  refine C.out.mono ?_
  rintro e w1 ⟨rfl, r1, bs1, lg1, D1⟩
  have HF := Lib.hid (D1.conv (o2 := okShp 1 (.pd (Pd.tup x))) (by simp [okShp]) (out2 := eShp (.pd (Pd.tup x))) rfl (show _ ≤ 1000000 by omega))
  clear D1
  go_wp2_with fail
  exact bodyPost_ret (results_tmp rfl _ _ _) rfl ⟨rfl, r1, bs1, lg1, HF.out⟩
set_option maxRecDepth 100000 in
theorem shw_nd {W : World} {L : Array Value} (x : Nd) (hk : L[0]? = some (.int .i64 2)) (hc : ∀ i, i < 7 → L[20 + i]? = (Nd.cells x)[i]?) (hx : x.Ok W) (hf : fewNd x) : ShW W L 2 (.nd (Nd.tup x)) := by
  intro w p r fb t bs lg h
  have c0 := h.tk.cell 0
  rw [hk] at c0
  have C := Lib.hid (nd_wr h (by omega) 20 x hc hx hf)
  clear h hk
  go_enter Try.func22, Try.ntmps22
  go_wp2_with fail
  refine C.out.mono ?_
  rintro e w1 ⟨rfl, r1, bs1, lg1, D1⟩
  have HF := Lib.hid (D1.conv (o2 := okShp 2 (.nd (Nd.tup x))) (by simp [okShp]) (out2 := eShp (.nd (Nd.tup x))) rfl (show _ ≤ 1000000 by omega))
  clear D1
  go_wp2_with fail
  exact bodyPost_ret (results_tmp rfl _ _ _) rfl ⟨rfl, r1, bs1, lg1, HF.out⟩
set_option maxRecDepth 100000 in
theorem shw_gr {W : World} {L : Array Value} (x : Gr) (hk : L[0]? = some (.int .i64 3)) (hc : ∀ i, i < 8 → L[27 + i]? = (Gr.cells x)[i]?) (hx : x.Ok W) (hf : fewGr x) : ShW W L 3 (.gr (Gr.tup x)) := by
  intro w p r fb t bs lg h
  have c0 := h.tk.cell 0
  rw [hk] at c0
  have C := Lib.hid (gr_wr h (by omega) 27 x hc hx hf)
  clear h hk
  go_enter Try.func22, Try.ntmps22
  go_wp2_with fail
  refine C.out.mono ?_
  rintro e w1 ⟨rfl, r1, bs1, lg1, D1⟩
  have HF := Lib.hid (D1.conv (o2 := okShp 3 (.gr (Gr.tup x))) (by simp [okShp]) (out2 := eShp (.gr (Gr.tup x))) rfl (show _ ≤ 1000000 by omega))
  clear D1
  go_wp2_with fail
  exact bodyPost_ret (results_tmp rfl _ _ _) rfl ⟨rfl, r1, bs1, lg1, HF.out⟩
set_option maxRecDepth 100000 in
theorem shw_hp {W : World} {L : Array Value} (x : Hp) (hk : L[0]? = some (.int .i64 4)) (hc : ∀ i, i < 12 → L[35 + i]? = (Hp.cells x)[i]?) (hx : x.Ok W) (hf : fewHp x) : ShW W L 4 (.hp (Hp.tup x)) := by
  intro w p r fb t bs lg h
  have c0 := h.tk.cell 0
  rw [hk] at c0
  have C := Lib.hid (hp_wr h (by omega) 35 x hc hx hf)
  clear h hk
  go_enter Try.func22, Try.ntmps22
  go_wp2_with fail
  refine C.out.mono ?_
  rintro e w1 ⟨rfl, r1, bs1, lg1, D1⟩
  have HF := Lib.hid (D1.conv (o2 := okShp 4 (.hp (Hp.tup x))) (by simp [okShp]) (out2 := eShp (.hp (Hp.tup x))) rfl (show _ ≤ 1000000 by omega))
  clear D1
  go_wp2_with fail
  exact bodyPost_ret (results_tmp rfl _ _ _) rfl ⟨rfl, r1, bs1, lg1, HF.out⟩
end Go.Proofs.Ythdjfcfbmmmmcaa
namespace Go.Proofs.Ythdjfcfbmmmmcaa
open Go.RowKit Go.Proofs.Mem
set_option linter.unusedVariables false
set_option linter.unusedSimpArgs false
/-- The call's own writer and field, ahead of the first byte. -/
theorem wpre0 (w : World) {L : Array Value} : WPre w (((w.alloc (.cells L 48)).alloc (.cells #[.slice none 0 0] 57)).alloc (.cells #[.pointer (some ⟨w.heap.size + 1, 0, none⟩), .pointer none, .bool false] 69)) (w.heap.size + 1) none (w.heap.size + 2) w.heap.size 48 L [] false 0 := by
  have k0 := ((Bk.new w 48 L).alloc (.cells #[.slice none 0 0] 57)).alloc (.cells #[.pointer (some ⟨w.heap.size + 1, 0, none⟩), .pointer none, .bool false] 69)
  have k1 := (Bk.new (w.alloc (.cells L 48)) 57 #[.slice none 0 0]).alloc (.cells #[.pointer (some ⟨w.heap.size + 1, 0, none⟩), .pointer none, .bool false] 69)
  have k2 := Bk.new ((w.alloc (.cells L 48)).alloc (.cells #[.slice none 0 0] 57)) 69 #[.pointer (some ⟨w.heap.size + 1, 0, none⟩), .pointer none, .bool false]
  have e1 : (w.alloc (.cells L 48)).heap.size = w.heap.size + 1 := World.size_alloc _ _
  have e2 : ((w.alloc (.cells L 48)).alloc (.cells #[.slice none 0 0] 57)).heap.size = w.heap.size + 2 := by rw [World.size_alloc, e1]
  rw [e1] at k1
  rw [e2] at k2
  refine ⟨⟨⟨_, k1, rfl, World.ownsRow_nil ..⟩, by simp⟩, Nat.le_refl _, k2, k0, ?_, by omega, by omega, by simp, by omega, by omega, by simp, by omega, by simp⟩
  exact (((Below.refl _ _).alloc (Nat.le_refl _) _).alloc (by rw [e1]; omega) _).alloc (by rw [e2]; omega) _
theorem wpre_mono {W w : World} {p fb t : Nat} {r : Option Nat} {ty : TypeId} {cs : Array Value} {bs : List UInt8} {lg : Bool} {N M : Nat} (h : WPre W w p r fb t ty cs bs lg N) (hM : N ≤ M) : WPre W w p r fb t ty cs bs lg M :=
  ⟨h.wt, Nat.le_trans h.len hM, h.fld, h.tk, h.bl, h.Wp, h.Wf, h.Wr, h.tp, h.tf, h.tr, h.fp, h.fr⟩
/-- A number, written straight. -/
theorem num_wr {W w : World} {p fb t : Nat} {r : Option Nat} {ty : TypeId} {cs : Array Value} {bs : List UInt8} {lg : Bool} {N : Nat} (h : WPre W w p r fb t ty cs bs lg N) (hN : N ≤ 100000000) (x n : Nat) (hx : x ≤ 18446744073709551615) (hn : wholeP n) :
    Calls Try.prog 16 #[.pointer (some ⟨p, 0, none⟩), .int .u64 x, .int .i64 n] w.drew (WPost p r fb bs lg w True (putL x n) n) :=
  (wput_ok x n hx hn w.drew (wt_drew h.wt) (by have := h.len; omega)).mono (fun e w' ⟨h1, h2⟩ => h1 ▸ wpost_w h (out := putL x n) (wdone_drew h2) _ trivial (Nat.le_of_eq (putL_len _ _)))
/-- 'append' of what reads as a list, where an operation of a drawn region stands. -/
theorem wp_append_sl {P : Program} {w : World} {o : Oper} {a : Act} {K : Act → World → Prop} {Q : Exit → Act → World → Prop} (s x : Operand) (t : TypeId)
    (ho : o.op = .call { callee := .builtin .append, args := #[s, x], argTypes := #[t, t] })
    (base : Nat) (e : TypeId) (z : Value) (size bytes : Nat) (ht : P.underlying t = some (.slice e)) (hinfo : (P.info? e).map (fun i => (i.zero, i.size, i.bytes)) = some (some z, size, bytes))
    (hzs : z.cells.size = size) (hsz : 0 < size) (hby : 0 < bytes)
    (v : Value) (n : Nat) (xs : List Value) (hs : a.eval s = v) (hown : w.ownsRow base e size v n xs)
    (y : Value) (m : Nat) (news : List Value) (hx : a.eval x = y) (hr : Sl w size y m news) (h1 : ∀ u ∈ news, u.oneCell' = true)
    (hbytes : (n + m) * bytes ≤ 140737488355328) (hbase : base ≤ w.heap.size)
    (h : ∀ v' w', w'.ownsRow base e size v' (n + m) (xs ++ news) → w.grownBy w' v.ownBlock → (v'.ownBlock = v.ownBlock ∨ v'.ownBlock = some w.heap.size) → K (a.put o.dst v') w') :
    o.wp P a w K Q := by
  obtain ⟨v', w', hrun, h2, h3, h4⟩ := run_append (P := P) w base t o.type e z size bytes ht hinfo hzs hsz hby v n xs hown y m news hr h1 hbytes hbase
  unfold Oper.wp execOp
  simp only [ho, resolve, invoke, builtin, Sem.run_bind, Sem.run_pure, Result.andThen_ok, List.map_toArray, List.map_cons, List.map_nil, hs, hx, hrun]
  exact h v' w' h2 h3 h4
set_option maxHeartbeats 1000000 in
set_option maxRecDepth 100000 in
theorem wobj_kind {L : Array Value} (hL : Is47 L) (w : World) (p : Nat) (z : Int) (nm : ByteArray) (ver : Nat) (hk : L[0]? = some (.int .i64 z)) (hn : L[1]? = some (.string nm)) (hv : L[2]? = some (.int .u64 ver)) (hz : z < 0 ∨ 5 ≤ z) (hw : wfs nm) (hver : ver ≤ 18446744073709551615) :
    Calls Try.prog 17 #[.pointer (some ⟨p, 0, none⟩), .agg L] w fun e w' => e = .returned (.int .i64 17) ∧ Below w.heap.size w w' := by
  have H0 := Lib.hid (wpre0 w (L := L))
  have HL := Lib.hid hL
  obtain ⟨W0, hW0⟩ : ∃ W0, W0 = (((w.alloc (.cells L 48)).alloc (.cells #[.slice none 0 0] 57)).alloc (.cells #[.pointer (some ⟨w.heap.size + 1, 0, none⟩), .pointer none, .bool false] 69)) := ⟨_, rfl⟩
  rw [← hW0] at H0
  have HW0 := Lib.hid hW0
  have HK := Lib.hid (And.intro hk (And.intro hn (And.intro hv hw)))
  have HV := Lib.hid hver
  have HZ := Lib.hid hz
  clear hk hn hv hw hver hz
  clear hL hW0
  go_enter Try.func17, Try.ntmps17
  go_wp2_with (first | (refine wpl_allocg rfl (run_box47 HL.out rfl rfl _) ?_))
  rw [show (((w.alloc (.cells L 48)).alloc (.cells #[.slice none 0 0] 57)).alloc (.cells #[.pointer (some ⟨w.heap.size + 1, 0, none⟩), .pointer none, .bool false] 69)) = W0 from HW0.out.symm]
  rw [show w.heap.size + 1 + 1 = w.heap.size + 2 from rfl]
  clear HW0
  obtain ⟨b0, hb0⟩ : ∃ b, b = w.heap.size := ⟨_, rfl⟩
  obtain ⟨b1, hb1⟩ : ∃ b, b = w.heap.size + 1 := ⟨_, rfl⟩
  obtain ⟨b2, hb2⟩ : ∃ b, b = w.heap.size + 2 := ⟨_, rfl⟩
  rw [← hb1, ← hb2, ← hb0] at H0 ⊢
  have HB := Lib.hid (And.intro hb0 (And.intro hb1 hb2))
  clear hb0 hb1 hb2
  have C1 := num_wr H0.out (by omega) (u64 z) 1 (u64_le z) (.inl rfl)
  rw [u64_wrap] at C1
  have C1 := Lib.hid C1
  have S0 : W0.drew.cell? ⟨b2, 0, none⟩ = some (.pointer (some ⟨b1, 0, none⟩)) ∧ W0.drew.cell? ⟨b0, 0, none⟩ = some (.int .i64 z) := ⟨H0.out.fld.cell 0, (H0.out.tk.cell 0).trans HK.out.1⟩
  go_region_held3 (fun w' => w'.cell? ⟨b2, 0, none⟩ = some (.pointer (some ⟨b1, 0, none⟩)) ∧ w'.cell? ⟨b0, 0, none⟩ = some (.int .i64 z))
    (first | (with_reducible exact S0) | (with_reducible exact S5))
    ((go_at_call 16; refine C1.out.mono ?_; rintro e w1 ⟨rfl, r1, bs1, lg1, D1⟩; have H1 := Lib.hid (H0.out.next D1); have E1 := Lib.hid D1; clear D1; have S5 : w1.cell? ⟨b2, 0, none⟩ = some (.pointer (some ⟨b1, 0, none⟩)) ∧ w1.cell? ⟨b0, 0, none⟩ = some (.int .i64 z) := ⟨H1.out.fld.cell 0, (H1.out.tk.cell 0).trans HK.out.1⟩))
  clear S0 S5 C1
  go_wp2_with fail
  refine (text_wr H1.out (by omega) 1 nm HK.out.2.1 HK.out.2.2.2).mono ?_
  rintro e w2 ⟨rfl, r2, bs2, lg2, D2⟩
  have H2 := Lib.hid (H1.out.next D2)
  have E2 := Lib.hid D2
  clear D2
  go_wp2_with fail
  have C3 := Lib.hid (num_wr H2.out (by omega) ver 8 HV.out (.inr (.inr (.inr rfl))))
  have S0 : w2.drew.cell? ⟨b2, 0, none⟩ = some (.pointer (some ⟨b1, 0, none⟩)) ∧ w2.drew.cell? ⟨b0, 2, none⟩ = some (.int .u64 ver) := ⟨H2.out.fld.cell 0, (H2.out.tk.cell 2).trans HK.out.2.2.1⟩
  go_region_held3 (fun w' => w'.cell? ⟨b2, 0, none⟩ = some (.pointer (some ⟨b1, 0, none⟩)) ∧ w'.cell? ⟨b0, 2, none⟩ = some (.int .u64 ver))
    (first | (with_reducible exact S0) | (with_reducible exact S5))
    ((go_at_call 16; refine C3.out.mono ?_; rintro e w3 ⟨rfl, r3, bs3, lg3, D3⟩; have H3 := Lib.hid (H2.out.next D3); have E3 := Lib.hid D3; clear D3; have S5 : w3.cell? ⟨b2, 0, none⟩ = some (.pointer (some ⟨b1, 0, none⟩)) ∧ w3.cell? ⟨b0, 2, none⟩ = some (.int .u64 ver) := ⟨H3.out.fld.cell 0, (H3.out.tk.cell 2).trans HK.out.2.2.1⟩))
  clear S0 S5 C3
  have c0 := (H3.out.tk.cell 0).trans HK.out.1
  have HF := Lib.hid H3.out.bl
  rcases Int.lt_or_le z 0 with hz | hz
  · go_wp2_with fail
    go_ret
    exact ⟨rfl, HF.out⟩
  · have hz5 : 5 ≤ z := by rcases HZ.out with h | h <;> omega
    go_wp2_with fail
    go_ret
    exact ⟨rfl, HF.out⟩
set_option maxHeartbeats 2000000 in
set_option maxRecDepth 100000 in
theorem wobj_long {L : Array Value} (hL : Is47 L) (w : World) (p : Nat) (r : Option Nat) (bs : List UInt8) (hw0 : WtO w p r bs) (hbs : bs.length ≤ 1000000) (k : Nat) (nm : ByteArray) (ver : Nat) (q : Shp) (hk : L[0]? = some (.int .i64 (k : Int))) (hn : L[1]? = some (.string nm)) (hv : L[2]? = some (.int .u64 ver)) (hk5 : k < 5) (hw : wfs nm) (hver : ver ≤ 18446744073709551615) (HS : ShW w L k q) (hok : ¬ okOb (k, nm, ver, q)) :
    Calls Try.prog 17 #[.pointer (some ⟨p, 0, none⟩), .agg L] w fun e w' => e = .returned (.int .i64 18) ∧ Below w.heap.size w w' := by
  have H0 := Lib.hid (wpre0 w (L := L))
  have HL := Lib.hid hL
  obtain ⟨W0, hW0⟩ : ∃ W0, W0 = (((w.alloc (.cells L 48)).alloc (.cells #[.slice none 0 0] 57)).alloc (.cells #[.pointer (some ⟨w.heap.size + 1, 0, none⟩), .pointer none, .bool false] 69)) := ⟨_, rfl⟩
  rw [← hW0] at H0
  have HW0 := Lib.hid hW0
  have HK := Lib.hid (And.intro hk (And.intro hn (And.intro hv hw)))
  have HV := Lib.hid hver
  have HWT := Lib.hid hw0
  have HBS := Lib.hid hbs
  have HOK := Lib.hid hok
  have hwr : IntKind.u64.wrap (k : Int) = (k : Int) := by unfold IntKind.wrap; simp [IntKind.signed, IntKind.bits]; omega
  have hkI : (k : Int) < 5 := by omega
  clear hk hn hv hw hver hw0 hbs hok
  clear hL hW0
  go_enter Try.func17, Try.ntmps17
  go_wp2_with (first | (refine wpl_allocg rfl (run_box47 HL.out rfl rfl _) ?_))
  rw [show (((w.alloc (.cells L 48)).alloc (.cells #[.slice none 0 0] 57)).alloc (.cells #[.pointer (some ⟨w.heap.size + 1, 0, none⟩), .pointer none, .bool false] 69)) = W0 from HW0.out.symm]
  rw [show w.heap.size + 1 + 1 = w.heap.size + 2 from rfl]
  clear HW0
  obtain ⟨b0, hb0⟩ : ∃ b, b = w.heap.size := ⟨_, rfl⟩
  obtain ⟨b1, hb1⟩ : ∃ b, b = w.heap.size + 1 := ⟨_, rfl⟩
  obtain ⟨b2, hb2⟩ : ∃ b, b = w.heap.size + 2 := ⟨_, rfl⟩
  rw [← hb1, ← hb2, ← hb0] at H0 ⊢
  have HB := Lib.hid (And.intro hb0 (And.intro hb1 hb2))
  clear hb0 hb1 hb2
  have C1 := Lib.hid (num_wr H0.out (by omega) k 1 (by omega) (.inl rfl))
  have S0 : W0.drew.cell? ⟨b2, 0, none⟩ = some (.pointer (some ⟨b1, 0, none⟩)) ∧ W0.drew.cell? ⟨b0, 0, none⟩ = some (.int .i64 (k : Int)) := ⟨H0.out.fld.cell 0, (H0.out.tk.cell 0).trans HK.out.1⟩
  go_region_held3 (fun w' => w'.cell? ⟨b2, 0, none⟩ = some (.pointer (some ⟨b1, 0, none⟩)) ∧ w'.cell? ⟨b0, 0, none⟩ = some (.int .i64 (k : Int)))
    (first | (with_reducible exact S0) | (with_reducible exact S5))
    ((go_at_call 16; refine C1.out.mono ?_; rintro e w1 ⟨rfl, r1, bs1, lg1, D1⟩; have H1 := Lib.hid (H0.out.next D1); have E1 := Lib.hid D1; clear D1; have S5 : w1.cell? ⟨b2, 0, none⟩ = some (.pointer (some ⟨b1, 0, none⟩)) ∧ w1.cell? ⟨b0, 0, none⟩ = some (.int .i64 (k : Int)) := ⟨H1.out.fld.cell 0, (H1.out.tk.cell 0).trans HK.out.1⟩))
  clear S0 S5 C1
  go_wp2_with fail
  refine (text_wr H1.out (by omega) 1 nm HK.out.2.1 HK.out.2.2.2).mono ?_
  rintro e w2 ⟨rfl, r2, bs2, lg2, D2⟩
  have H2 := Lib.hid (H1.out.next D2)
  have E2 := Lib.hid D2
  clear D2
  go_wp2_with fail
  have C3 := Lib.hid (num_wr H2.out (by omega) ver 8 HV.out (.inr (.inr (.inr rfl))))
  have S0 : w2.drew.cell? ⟨b2, 0, none⟩ = some (.pointer (some ⟨b1, 0, none⟩)) ∧ w2.drew.cell? ⟨b0, 2, none⟩ = some (.int .u64 ver) := ⟨H2.out.fld.cell 0, (H2.out.tk.cell 2).trans HK.out.2.2.1⟩
  go_region_held3 (fun w' => w'.cell? ⟨b2, 0, none⟩ = some (.pointer (some ⟨b1, 0, none⟩)) ∧ w'.cell? ⟨b0, 2, none⟩ = some (.int .u64 ver))
    (first | (with_reducible exact S0) | (with_reducible exact S5))
    ((go_at_call 16; refine C3.out.mono ?_; rintro e w3 ⟨rfl, r3, bs3, lg3, D3⟩; have H3 := Lib.hid (H2.out.next D3); have E3 := Lib.hid D3; clear D3; have S5 : w3.cell? ⟨b2, 0, none⟩ = some (.pointer (some ⟨b1, 0, none⟩)) ∧ w3.cell? ⟨b0, 2, none⟩ = some (.int .u64 ver) := ⟨H3.out.fld.cell 0, (H3.out.tk.cell 2).trans HK.out.2.2.1⟩))
  clear S0 S5 C3
  have c0 := (H3.out.tk.cell 0).trans HK.out.1
  go_wp2_with fail
  refine (HS w3 b1 r3 b2 b0 bs3 lg3 (wpre_mono H3.out (by omega))).mono ?_
  rintro e w4 ⟨rfl, r4, bs4, lg4, D4⟩
  have H4 := Lib.hid (H3.out.next D4)
  have E4 := Lib.hid (WD.conv (o2 := okOb (k, nm, ver, q)) (out2 := eOb (k, nm, ver, q)) (K2 := 2000000) (E1.out.pair (E2.out.pair (E3.out.pair D4))) (by
    constructor
    · rintro ⟨-, h1, -, h2⟩
      exact ⟨show k < 256 ^ 1 by omega, h1, show ver < 256 ^ 8 by have := HV.out; omega, h2⟩
    · rintro ⟨-, h1, -, h2⟩
      exact ⟨trivial, h1, trivial, h2⟩) rfl (by omega))
  clear D4 c0 hwr
  obtain rfl : lg4 = true := E4.out.ws.1.2 (.inr HOK.out)
  have f2 := H4.out.fld.cell 2
  have HF := Lib.hid H4.out.bl
  go_wp2_with fail
  go_ret
  exact ⟨rfl, HF.out⟩
set_option maxHeartbeats 2000000 in
set_option maxRecDepth 100000 in
theorem wobj_ok {L : Array Value} (hL : Is47 L) (w : World) (p : Nat) (r : Option Nat) (bs : List UInt8) (hw0 : WtO w p r bs) (hbs : bs.length ≤ 1000000) (k : Nat) (nm : ByteArray) (ver : Nat) (q : Shp) (hk : L[0]? = some (.int .i64 (k : Int))) (hn : L[1]? = some (.string nm)) (hv : L[2]? = some (.int .u64 ver)) (hk5 : k < 5) (hw : wfs nm) (hver : ver ≤ 18446744073709551615) (HS : ShW w L k q) (hok : okOb (k, nm, ver, q)) :
    Calls Try.prog 17 #[.pointer (some ⟨p, 0, none⟩), .agg L] w fun e w' => e = .returned (.int .i64 0) ∧ WDone w w' p r (bs ++ eOb (k, nm, ver, q)) ∧ (eOb (k, nm, ver, q)).length ≤ 2000000 := by
  have H0 := Lib.hid (wpre0 w (L := L))
  have HL := Lib.hid hL
  obtain ⟨W0, hW0⟩ : ∃ W0, W0 = (((w.alloc (.cells L 48)).alloc (.cells #[.slice none 0 0] 57)).alloc (.cells #[.pointer (some ⟨w.heap.size + 1, 0, none⟩), .pointer none, .bool false] 69)) := ⟨_, rfl⟩
  rw [← hW0] at H0
  have HW0 := Lib.hid hW0
  have HK := Lib.hid (And.intro hk (And.intro hn (And.intro hv hw)))
  have HV := Lib.hid hver
  have HWT := Lib.hid hw0
  have HBS := Lib.hid hbs
  have HOK := Lib.hid hok
  have hwr : IntKind.u64.wrap (k : Int) = (k : Int) := by unfold IntKind.wrap; simp [IntKind.signed, IntKind.bits]; omega
  have hkI : (k : Int) < 5 := by omega
  clear hk hn hv hw hver hw0 hbs hok
  clear hL hW0
  go_enter Try.func17, Try.ntmps17
  go_wp2_with (first | (refine wpl_allocg rfl (run_box47 HL.out rfl rfl _) ?_))
  rw [show (((w.alloc (.cells L 48)).alloc (.cells #[.slice none 0 0] 57)).alloc (.cells #[.pointer (some ⟨w.heap.size + 1, 0, none⟩), .pointer none, .bool false] 69)) = W0 from HW0.out.symm]
  rw [show w.heap.size + 1 + 1 = w.heap.size + 2 from rfl]
  clear HW0
  obtain ⟨b0, hb0⟩ : ∃ b, b = w.heap.size := ⟨_, rfl⟩
  obtain ⟨b1, hb1⟩ : ∃ b, b = w.heap.size + 1 := ⟨_, rfl⟩
  obtain ⟨b2, hb2⟩ : ∃ b, b = w.heap.size + 2 := ⟨_, rfl⟩
  rw [← hb1, ← hb2, ← hb0] at H0 ⊢
  have HB := Lib.hid (And.intro hb0 (And.intro hb1 hb2))
  clear hb0 hb1 hb2
  have C1 := Lib.hid (num_wr H0.out (by omega) k 1 (by omega) (.inl rfl))
  have S0 : W0.drew.cell? ⟨b2, 0, none⟩ = some (.pointer (some ⟨b1, 0, none⟩)) ∧ W0.drew.cell? ⟨b0, 0, none⟩ = some (.int .i64 (k : Int)) := ⟨H0.out.fld.cell 0, (H0.out.tk.cell 0).trans HK.out.1⟩
  go_region_held3 (fun w' => w'.cell? ⟨b2, 0, none⟩ = some (.pointer (some ⟨b1, 0, none⟩)) ∧ w'.cell? ⟨b0, 0, none⟩ = some (.int .i64 (k : Int)))
    (first | (with_reducible exact S0) | (with_reducible exact S5))
    ((go_at_call 16; refine C1.out.mono ?_; rintro e w1 ⟨rfl, r1, bs1, lg1, D1⟩; have H1 := Lib.hid (H0.out.next D1); have E1 := Lib.hid D1; clear D1; have S5 : w1.cell? ⟨b2, 0, none⟩ = some (.pointer (some ⟨b1, 0, none⟩)) ∧ w1.cell? ⟨b0, 0, none⟩ = some (.int .i64 (k : Int)) := ⟨H1.out.fld.cell 0, (H1.out.tk.cell 0).trans HK.out.1⟩))
  clear S0 S5 C1
  go_wp2_with fail
  refine (text_wr H1.out (by omega) 1 nm HK.out.2.1 HK.out.2.2.2).mono ?_
  rintro e w2 ⟨rfl, r2, bs2, lg2, D2⟩
  have H2 := Lib.hid (H1.out.next D2)
  have E2 := Lib.hid D2
  clear D2
  go_wp2_with fail
  have C3 := Lib.hid (num_wr H2.out (by omega) ver 8 HV.out (.inr (.inr (.inr rfl))))
  have S0 : w2.drew.cell? ⟨b2, 0, none⟩ = some (.pointer (some ⟨b1, 0, none⟩)) ∧ w2.drew.cell? ⟨b0, 2, none⟩ = some (.int .u64 ver) := ⟨H2.out.fld.cell 0, (H2.out.tk.cell 2).trans HK.out.2.2.1⟩
  go_region_held3 (fun w' => w'.cell? ⟨b2, 0, none⟩ = some (.pointer (some ⟨b1, 0, none⟩)) ∧ w'.cell? ⟨b0, 2, none⟩ = some (.int .u64 ver))
    (first | (with_reducible exact S0) | (with_reducible exact S5))
    ((go_at_call 16; refine C3.out.mono ?_; rintro e w3 ⟨rfl, r3, bs3, lg3, D3⟩; have H3 := Lib.hid (H2.out.next D3); have E3 := Lib.hid D3; clear D3; have S5 : w3.cell? ⟨b2, 0, none⟩ = some (.pointer (some ⟨b1, 0, none⟩)) ∧ w3.cell? ⟨b0, 2, none⟩ = some (.int .u64 ver) := ⟨H3.out.fld.cell 0, (H3.out.tk.cell 2).trans HK.out.2.2.1⟩))
  clear S0 S5 C3
  have c0 := (H3.out.tk.cell 0).trans HK.out.1
  go_wp2_with fail
  refine (HS w3 b1 r3 b2 b0 bs3 lg3 (wpre_mono H3.out (by omega))).mono ?_
  rintro e w4 ⟨rfl, r4, bs4, lg4, D4⟩
  have H4 := Lib.hid (H3.out.next D4)
  have E4 := Lib.hid (WD.conv (o2 := okOb (k, nm, ver, q)) (out2 := eOb (k, nm, ver, q)) (K2 := 2000000) (E1.out.pair (E2.out.pair (E3.out.pair D4))) (by
    constructor
    · rintro ⟨-, h1, -, h2⟩
      exact ⟨show k < 256 ^ 1 by omega, h1, show ver < 256 ^ 8 by have := HV.out; omega, h2⟩
    · rintro ⟨-, h1, -, h2⟩
      exact ⟨trivial, h1, trivial, h2⟩) rfl (by omega))
  clear D4 c0 hwr
  obtain rfl : lg4 = false := by
    cases lg4 with
    | false => rfl
    | true => rcases E4.out.ws.1.1 rfl with h | h; · cases h
              · exact absurd HOK.out h
  have f2 := H4.out.fld.cell 2
  have f0 := H4.out.fld.cell 0
  have hB4 := H4.out.bl
  have hWT4 := HWT.out.below hB4
  have he4 := E4.out.ws.2 HOK.out
  rw [List.nil_append] at he4
  subst he4
  have hlen := E4.out.len
  rw [List.length_nil, Nat.zero_add] at hlen
  obtain ⟨⟨v, hkv, hvr, ho⟩, hne⟩ := hWT4
  subst hvr
  obtain ⟨⟨v4, hk4, -, ho4⟩, hne4⟩ := E4.out.wt
  have g0 := hkv.cell 0
  have g1 := hk4.cell 0
  clear g0 g1 f0
  go_wp2_with fail
  refine wp_region_reads 12 1 (fun w' => w'.cell? ⟨p, 0, none⟩ = some v ∧ w'.cell? ⟨b2, 0, none⟩ = some (.pointer (some ⟨b1, 0, none⟩)) ∧ w'.cell? ⟨b1, 0, none⟩ = some v4) (by kernel_rfl) (by kernel_rfl) (fun c a d v w h => by cases d <;> exact h) ⟨hkv.cell 0, H4.out.fld.cell 0, hk4.cell 0⟩ ?_
  simp only [List.take_succ_cons, List.take_zero, List.drop_succ_cons, List.drop_zero]
  iterate 12
    refine reads_step (v := ?_) (by rfl) (fun w' hS => ?_) ?_
    rotate_left
    · have u0 := hS.1
      have u1 := hS.2.1
      have u2 := hS.2.2
      clear hS
      go_simp
      with_reducible rfl
    simp only [Act.put, List.setIfInBounds_toArray, List.set_cons_zero, List.set_cons_succ]
  refine reads_nil ?_
  refine early_step rfl (by rfl) ?_
  refine wp_append_sl _ _ _ rfl 0 5 _ 1 1 Try.underlying22 info_u8 rfl (by omega) (by omega) v bs.length (bs.map bv) rfl ho.drew v4 (eOb (k, nm, ver, q)).length ((eOb (k, nm, ver, q)).map bv) rfl (Sl.of_own ho4.drew) (bv_one _) (by have := HBS.out; omega) (by omega) ?_
  intro v' w5 hown5 hgrow5 hor5
  obtain ⟨A5, c5, rfl⟩ := own_form hown5
  have hfin := Lib.hid (wdone_step (w := w) (wr := w4) ⟨.inl rfl, PTouch.of_below hB4⟩ (Wt.done (bs' := bs ++ eOb (k, nm, ver, q)) hkv ((Below.refl _ _).drew) (by rw [List.length_append]) (by rw [List.map_append]; exact hown5) hgrow5 hor5 hne))
  have hfar : ∀ g, w.heap.size ≤ g → some g ≠ v.ownBlock := fun g hg e => by have := HWT.out.rlt g e.symm; omega
  have hsame : ∀ g, some g ≠ v.ownBlock → g < w4.heap.size → w5.heap[g]? = w4.heap[g]? := fun g hg hl => hgrow5.block g hl hg
  have kp : Bk w5 p 57 #[v] := (hsame p (fun e => hne e.symm) hkv.lt).trans hkv
  have kb2 := (hsame b2 (hfar b2 (by have := HB.out.2.2; omega)) H4.out.fld.lt).trans H4.out.fld
  have kb1 : Bk w5 b1 57 #[v4] := (hsame b1 (hfar b1 (by have := HB.out.2.1; omega)) hk4.lt).trans hk4
  refine ⟨⟨kp.cell 0, Bk.cell kb2 0, kb1.cell 0⟩, ?_⟩
  simp only [wpEarly]
  simp only [Act.put, List.setIfInBounds_toArray, List.set_cons_zero, List.set_cons_succ]
  have e0 := kp.cell 0
  have e1 := kp.frozen 0
  clear hown5 hgrow5 hor5 hfar hsame kp kb2 kb1 hkv ho hne hk4 ho4 hne4
  go_wp2_with fail
  go_ret
  exact ⟨rfl, hfin.out, hlen⟩
end Go.Proofs.Ythdjfcfbmmmmcaa
