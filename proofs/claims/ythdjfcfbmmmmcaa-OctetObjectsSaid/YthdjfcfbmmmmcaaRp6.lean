/-
  The shape of an object's kind, read. (printed by wip/gen_rp6.py)
-/
import Derived.Test.YthdjfcfbmmmmcaaRp5
namespace Go.Proofs.Ythdjfcfbmmmmcaa
open Go.RowKit Go.Proofs.Mem
set_option linter.unusedVariables false
set_option linter.unusedSimpArgs false
/-- The shape's cells from o on. -/
def AtWl (B : Nat) (w : World) (cs : Array Value) (o : Nat) (x : TWl) : Prop := cs[o]? = some (.int .i64 x.1) ∧ cs[o + 1]? = some (.int .i64 x.2.1) ∧ cs[o + 2]? = some (.int .i64 x.2.2.1) ∧ RowAt B 106 2 Lab.cells w cs (o + 3) x.2.2.2.1 ∧ RowAt B 108 3 Req.cells w cs (o + 4) x.2.2.2.2.1 ∧ RowAt B 106 2 Lab.cells w cs (o + 5) x.2.2.2.2.2.1 ∧ cs[o + 6]? = some (.int .i64 x.2.2.2.2.2.2)
set_option maxRecDepth 100000 in
theorem shape_wl {w : World} {p : Nat} {r : Option Nat} {fb t : Nat} {cs : Array Value} {st : Option (List UInt8)} (h : RPre w p r fb t 48 cs st) (hs : cs.size = 47) (hk : cs[0]? = some (.int .i64 0)) (hz3 : cs[6]? = some (.slice none 0 0)) (hz4 : cs[7]? = some (.slice none 0 0)) (hz5 : cs[8]? = some (.slice none 0 0)) :
    Calls Try.prog 22 #[.pointer (some ⟨fb, 0, none⟩), .pointer (some ⟨t, 0, none⟩)] w fun e w' => e = .returned (.bool true) ∧ RPost p r t 48 3 7 st cs w dWl (fun w' cs' x => AtWl w.heap.size w' cs' 3 x) (.returned (.tuple #[])) w' := by
  have c0 := h.tk.cell 0
  rw [hk] at c0
  have C := Lib.hid (wl_rd h 3 (by omega) (by exact hz3) (by exact hz4) (by exact hz5))
  clear h
  go_enter Try.func22, Try.ntmps22
  go_wp2_with fail
  refine C.out.mono ?_
  intro e w1 hP
  have HF := Lib.hid hP
  obtain ⟨rfl, -⟩ := hP
  go_wp2_with fail
  exact bodyPost_ret (results_tmp rfl _ _ _) rfl ⟨rfl, HF.out⟩
/-- The shape's cells from o on. -/
def AtPd (B : Nat) (w : World) (cs : Array Value) (o : Nat) (x : TPd) : Prop := cs[o]? = some (.string x.1) ∧ cs[o + 1]? = some (.string x.2.1) ∧ cs[o + 2]? = some (.int .i64 x.2.2.1) ∧ cs[o + 3]? = some (.int .i64 x.2.2.2.1) ∧ cs[o + 4]? = some (.int .i64 x.2.2.2.2.1) ∧ cs[o + 5]? = some (.int .i64 x.2.2.2.2.2.1) ∧ RowAt B 106 2 Lab.cells w cs (o + 6) x.2.2.2.2.2.2.1 ∧ RowAt B 108 3 Req.cells w cs (o + 7) x.2.2.2.2.2.2.2.1 ∧ RowAt B 106 2 Lab.cells w cs (o + 8) x.2.2.2.2.2.2.2.2.1 ∧ cs[o + 9]? = some (.int .i64 x.2.2.2.2.2.2.2.2.2)
set_option maxRecDepth 100000 in
theorem shape_pd {w : World} {p : Nat} {r : Option Nat} {fb t : Nat} {cs : Array Value} {st : Option (List UInt8)} (h : RPre w p r fb t 48 cs st) (hs : cs.size = 47) (hk : cs[0]? = some (.int .i64 1)) (hz6 : cs[16]? = some (.slice none 0 0)) (hz7 : cs[17]? = some (.slice none 0 0)) (hz8 : cs[18]? = some (.slice none 0 0)) :
    Calls Try.prog 22 #[.pointer (some ⟨fb, 0, none⟩), .pointer (some ⟨t, 0, none⟩)] w fun e w' => e = .returned (.bool true) ∧ RPost p r t 48 10 10 st cs w dPd (fun w' cs' x => AtPd w.heap.size w' cs' 10 x) (.returned (.tuple #[])) w' := by
  have c0 := h.tk.cell 0
  rw [hk] at c0
  have C := Lib.hid (pd_rd h 10 (by omega) (by exact hz6) (by exact hz7) (by exact hz8))
  clear h
  go_enter Try.func22, Try.ntmps22
  go_wp2_with fail
  refine C.out.mono ?_
  intro e w1 hP
  have HF := Lib.hid hP
  obtain ⟨rfl, -⟩ := hP
  go_wp2_with fail
  exact bodyPost_ret (results_tmp rfl _ _ _) rfl ⟨rfl, HF.out⟩
/-- The shape's cells from o on. -/
def AtNd (B : Nat) (w : World) (cs : Array Value) (o : Nat) (x : TNd) : Prop := cs[o]? = some (.string x.1) ∧ cs[o + 1]? = some (.int .i64 x.2.1) ∧ cs[o + 2]? = some (.int .i64 x.2.2.1) ∧ RowAt B 106 2 Lab.cells w cs (o + 3) x.2.2.2.1 ∧ RowAt B 106 2 Lab.cells w cs (o + 4) x.2.2.2.2.1 ∧ cs[o + 5]? = some (.int .i64 x.2.2.2.2.2.1) ∧ cs[o + 6]? = some (.bool x.2.2.2.2.2.2)
set_option maxRecDepth 100000 in
theorem shape_nd {w : World} {p : Nat} {r : Option Nat} {fb t : Nat} {cs : Array Value} {st : Option (List UInt8)} (h : RPre w p r fb t 48 cs st) (hs : cs.size = 47) (hk : cs[0]? = some (.int .i64 2)) (hz3 : cs[23]? = some (.slice none 0 0)) (hz4 : cs[24]? = some (.slice none 0 0)) :
    Calls Try.prog 22 #[.pointer (some ⟨fb, 0, none⟩), .pointer (some ⟨t, 0, none⟩)] w fun e w' => e = .returned (.bool true) ∧ RPost p r t 48 20 7 st cs w dNd (fun w' cs' x => AtNd w.heap.size w' cs' 20 x) (.returned (.tuple #[])) w' := by
  have c0 := h.tk.cell 0
  rw [hk] at c0
  have C := Lib.hid (nd_rd h 20 (by omega) (by exact hz3) (by exact hz4))
  clear h
  go_enter Try.func22, Try.ntmps22
  go_wp2_with fail
  refine C.out.mono ?_
  intro e w1 hP
  have HF := Lib.hid hP
  obtain ⟨rfl, -⟩ := hP
  go_wp2_with fail
  exact bodyPost_ret (results_tmp rfl _ _ _) rfl ⟨rfl, HF.out⟩
/-- The shape's cells from o on. -/
def AtGr (B : Nat) (w : World) (cs : Array Value) (o : Nat) (x : TGr) : Prop := cs[o]? = some (.int .i64 x.1) ∧ cs[o + 1]? = some (.int .i64 x.2.1) ∧ cs[o + 2]? = some (.int .i64 x.2.2.1) ∧ cs[o + 3]? = some (.int .i64 x.2.2.2.1) ∧ cs[o + 4]? = some (.int .i64 x.2.2.2.2.1) ∧ RowAt B 106 2 Lab.cells w cs (o + 5) x.2.2.2.2.2.1 ∧ RowAt B 106 2 Lab.cells w cs (o + 6) x.2.2.2.2.2.2.1 ∧ cs[o + 7]? = some (.int .i64 x.2.2.2.2.2.2.2)
set_option maxRecDepth 100000 in
theorem shape_gr {w : World} {p : Nat} {r : Option Nat} {fb t : Nat} {cs : Array Value} {st : Option (List UInt8)} (h : RPre w p r fb t 48 cs st) (hs : cs.size = 47) (hk : cs[0]? = some (.int .i64 3)) (hz5 : cs[32]? = some (.slice none 0 0)) (hz6 : cs[33]? = some (.slice none 0 0)) :
    Calls Try.prog 22 #[.pointer (some ⟨fb, 0, none⟩), .pointer (some ⟨t, 0, none⟩)] w fun e w' => e = .returned (.bool true) ∧ RPost p r t 48 27 8 st cs w dGr (fun w' cs' x => AtGr w.heap.size w' cs' 27 x) (.returned (.tuple #[])) w' := by
  have c0 := h.tk.cell 0
  rw [hk] at c0
  have C := Lib.hid (gr_rd h 27 (by omega) (by exact hz5) (by exact hz6))
  clear h
  go_enter Try.func22, Try.ntmps22
  go_wp2_with fail
  refine C.out.mono ?_
  intro e w1 hP
  have HF := Lib.hid hP
  obtain ⟨rfl, -⟩ := hP
  go_wp2_with fail
  exact bodyPost_ret (results_tmp rfl _ _ _) rfl ⟨rfl, HF.out⟩
/-- The shape's cells from o on. -/
def AtHp (B : Nat) (w : World) (cs : Array Value) (o : Nat) (x : THp) : Prop := cs[o]? = some (.string x.1) ∧ cs[o + 1]? = some (.int .i64 x.2.1) ∧ cs[o + 2]? = some (.int .i64 x.2.2.1) ∧ RowAt B 81 3 Mem.Met.cells w cs (o + 3) x.2.2.2.1 ∧ cs[o + 4]? = some (.int .i64 x.2.2.2.2.1) ∧ (cs[o + 5]? = some (.int .i64 x.2.2.2.2.2.1.1) ∧ cs[o + 6]? = some (.int .i64 x.2.2.2.2.2.1.2.1) ∧ RowAt B 110 3 Pol.cells w cs (o + 7) x.2.2.2.2.2.1.2.2) ∧ (cs[o + 8]? = some (.int .i64 x.2.2.2.2.2.2.1.1) ∧ cs[o + 9]? = some (.int .i64 x.2.2.2.2.2.2.1.2.1) ∧ RowAt B 110 3 Pol.cells w cs (o + 10) x.2.2.2.2.2.2.1.2.2) ∧ RowAt B 91 3 Done.cells w cs (o + 11) x.2.2.2.2.2.2.2
set_option maxRecDepth 100000 in
theorem shape_hp {w : World} {p : Nat} {r : Option Nat} {fb t : Nat} {cs : Array Value} {st : Option (List UInt8)} (h : RPre w p r fb t 48 cs st) (hs : cs.size = 47) (hk : cs[0]? = some (.int .i64 4)) (hz3 : cs[38]? = some (.slice none 0 0)) (hz7 : cs[42]? = some (.slice none 0 0)) (hz10 : cs[45]? = some (.slice none 0 0)) (hz11 : cs[46]? = some (.slice none 0 0)) :
    Calls Try.prog 22 #[.pointer (some ⟨fb, 0, none⟩), .pointer (some ⟨t, 0, none⟩)] w fun e w' => e = .returned (.bool true) ∧ RPost p r t 48 35 12 st cs w dHp (fun w' cs' x => AtHp w.heap.size w' cs' 35 x) (.returned (.tuple #[])) w' := by
  have c0 := h.tk.cell 0
  rw [hk] at c0
  have C := Lib.hid (hp_rd h 35 (by omega) (by exact hz3) (by exact hz7) (by exact hz10) (by exact hz11))
  clear h
  go_enter Try.func22, Try.ntmps22
  go_wp2_with fail
  refine C.out.mono ?_
  intro e w1 hP
  have HF := Lib.hid hP
  obtain ⟨rfl, -⟩ := hP
  go_wp2_with fail
  exact bodyPost_ret (results_tmp rfl _ _ _) rfl ⟨rfl, HF.out⟩
set_option maxRecDepth 100000 in
theorem shape_no {w : World} {fb t : Nat} {cs : Array Value} {k : Int} (tk : Bk w t 48 cs) (hk : cs[0]? = some (.int .i64 k)) (h5 : 5 ≤ k) :
    Calls Try.prog 22 #[.pointer (some ⟨fb, 0, none⟩), .pointer (some ⟨t, 0, none⟩)] w fun e w' => e = .returned (.bool false) ∧ w' = w := by
  have c0 := tk.cell 0
  rw [hk] at c0
  have k0 : (k == 0) = false := by simp; omega
  have k1 : (k == 1) = false := by simp; omega
  have k2 : (k == 2) = false := by simp; omega
  have k3 : (k == 3) = false := by simp; omega
  have k4 : (k == 4) = false := by simp; omega
  clear tk hk
  go_enter Try.func22, Try.ntmps22
  go_wp2_with fail
  exact bodyPost_ret (results_tmp rfl _ _ _) rfl ⟨rfl, rfl⟩
end Go.Proofs.Ythdjfcfbmmmmcaa
