/-
  Reading the five shapes with a reader. (printed by wip/gen_rp5.py)
-/
import Derived.Test.YthdjfcfbmmmmcaaRp4
namespace Go.Proofs.Ythdjfcfbmmmmcaa
open Go.RowKit Go.Proofs.Mem
set_option linter.unusedVariables false
set_option linter.unusedSimpArgs false
theorem own_touch {w1 w2 : World} {p t base : Nat} {e : TypeId} {size n : Nat} {v : Value} {xs : List Value} (h : w1.ownsRow base e size v n xs) (T : PTouch p (some t) w1 w2) (hp : p < base) (ht : t < base) : w2.ownsRow base e size v n xs :=
  own_keep h fun g hg => by
    have := h.lt g hg
    exact T.heap g this.2 (by omega) (by simp; omega)
/-- A row that was read: in a cell, the call's own. -/
def RowAt (B : Nat) (e : TypeId) (s : Nat) {α : Type} (f : α → List Value) (w : World) (cs : Array Value) (o : Nat) (l : List α) : Prop := ∃ v, cs[o]? = some v ∧ w.ownsRow B e s v l.length (l.flatMap f)
theorem RowAt.move {B B1 : Nat} {e : TypeId} {s : Nat} {α : Type} {f : α → List Value} {w w2 : World} {cs cs2 : Array Value} {o : Nat} {l : List α} {p t : Nat} (h : RowAt B1 e s f w cs o l) (hb : B ≤ B1) (T : PTouch p (some t) w w2) (hp : p < B) (ht : t < B) (hc : cs2[o]? = cs[o]?) : RowAt B e s f w2 cs2 o l := by
  obtain ⟨v, h1, h2⟩ := h
  exact ⟨v, hc.trans h1, own_touch (own_mono h2 hb) T hp ht⟩
set_option maxHeartbeats 1000000 in
set_option maxRecDepth 100000 in
theorem bh_rd {w : World} {p : Nat} {r : Option Nat} {fb t : Nat} {ty : TypeId} {cs : Array Value} {st : Option (List UInt8)} (h : RPre w p r fb t ty cs st) (o : Nat) (ho : o + 3 ≤ cs.size) (hz2 : cs[o + 2]? = some (.slice none 0 0)) :
    Calls Try.prog 54 #[.pointer (some ⟨fb, 0, none⟩), .pointer (some ⟨t, o, none⟩)] w (RPost p r t ty o 3 st cs w dBh (fun w' cs' x => cs'[o]? = some (.int .i64 x.1) ∧ cs'[o + 1]? = some (.int .i64 x.2.1) ∧ RowAt w.heap.size 110 3 Pol.cells w' cs' (o + 2) x.2.2)) := by
  have H0 := Lib.hid h
  have hp0 := h.rs.lt
  have ht0 := h.tk.lt
  clear h
  go_enter Try.func54, Try.ntmps54
  go_wp2_with fail
  refine (numI_rd H0.out (o) (by omega)).mono ?_
  rintro e w1 ⟨rfl, st1, cs1, hR1, tk1, F1, one1, T1, S1⟩
  have H1 := Lib.hid (H0.out.next hR1 tk1 one1 T1)
  have K1 := Lib.hid (And.intro F1 (And.intro F1 (And.intro T1 S1)))
  clear hR1 tk1 F1 one1 T1 S1
  go_wp2_with fail
  refine (numI_rd H1.out (o + 1) (by rw [K1.out.1.size]; omega)).mono ?_
  rintro e w2 ⟨rfl, st2, cs2, hR2, tk2, F2, one2, T2, S2⟩
  have H2 := Lib.hid (H1.out.next hR2 tk2 one2 T2)
  have K2 := Lib.hid (And.intro (K1.out.1.trans F2 (by omega) (by omega) (by omega) (by omega) : Fr cs cs2 o 2) (And.intro F2 (And.intro T2 S2)))
  clear hR2 tk2 F2 one2 T2 S2
  go_wp2_with fail
  refine (rowPol_rd H2.out (o + 2) (by rw [K2.out.1.size]; omega) (by exact (K2.out.1.out (o + 2) (.inr (by omega))).trans hz2)).mono ?_
  rintro e w3 ⟨rfl, st3, cs3, hR3, tk3, F3, one3, T3, S3⟩
  have H3 := Lib.hid (H2.out.next hR3 tk3 one3 T3)
  have K3 := Lib.hid (And.intro (K2.out.1.trans F3 (by omega) (by omega) (by omega) (by omega) : Fr cs cs3 o 3) (And.intro F3 (And.intro T3 S3)))
  clear hR3 tk3 F3 one3 T3 S3
  have HF := Lib.hid (show RPost p r t ty o 3 st cs w dBh (fun w' cs' x => cs'[o]? = some (.int .i64 x.1) ∧ cs'[o + 1]? = some (.int .i64 x.2.1) ∧ RowAt w.heap.size 110 3 Pol.cells w' cs' (o + 2) x.2.2) (.returned (.tuple #[])) w3 from by
    have FF2 := K3.out.2.1
    have TT2 := K3.out.2.2.1
    have FF1 : Fr cs1 cs3 (o + 1) 2 := K2.out.2.1.trans FF2 (by omega) (by omega) (by omega) (by omega)
    have TT1 := K2.out.2.2.1.trans TT2 (.inl rfl)
    have FF0 : Fr cs cs3 (o) 3 := K1.out.2.1.trans FF1 (by omega) (by omega) (by omega) (by omega)
    have TT0 := K1.out.2.2.1.trans TT1 (.inl rfl)
    have Z0 : w.heap.size ≤ w.heap.size := Nat.le_refl _
    have Z1 : w.heap.size ≤ w1.heap.size := Nat.le_trans Z0 K1.out.2.2.1.size
    have Z2 : w.heap.size ≤ w2.heap.size := Nat.le_trans Z1 K2.out.2.2.1.size
    exact ⟨rfl, st3, cs3, H3.out.rs, H3.out.tk, FF0, H3.out.one, TT0, (((K1.out.2.2.2.mono (Y := fun x => cs3[o]? = some (.int .i64 x)) (fun x hx => (FF1.out (o) (.inl (by omega))).trans hx)).pair ((K2.out.2.2.2.mono (Y := fun x => cs3[o + 1]? = some (.int .i64 x)) (fun x hx => (FF2.out (o + 1) (.inl (by omega))).trans hx)).pair (K3.out.2.2.2.mono (Y := fun x => RowAt w.heap.size 110 3 Pol.cells w3 cs3 (o + 2) x) (fun x hx => RowAt.move (p := p) (t := t) hx Z2 (PTouch.refl _ _ _) hp0 ht0 rfl))))).mono (fun x hx => by first | exact hx | simpa [and_assoc] using hx)⟩)
  go_wp2_with fail
  exact bodyPost_end (results_none rfl _ _ _) rfl HF.out
set_option maxHeartbeats 1000000 in
set_option maxRecDepth 100000 in
theorem wl_rd {w : World} {p : Nat} {r : Option Nat} {fb t : Nat} {ty : TypeId} {cs : Array Value} {st : Option (List UInt8)} (h : RPre w p r fb t ty cs st) (o : Nat) (ho : o + 7 ≤ cs.size) (hz3 : cs[o + 3]? = some (.slice none 0 0)) (hz4 : cs[o + 4]? = some (.slice none 0 0)) (hz5 : cs[o + 5]? = some (.slice none 0 0)) :
    Calls Try.prog 37 #[.pointer (some ⟨fb, 0, none⟩), .pointer (some ⟨t, o, none⟩)] w (RPost p r t ty o 7 st cs w dWl (fun w' cs' x => cs'[o]? = some (.int .i64 x.1) ∧ cs'[o + 1]? = some (.int .i64 x.2.1) ∧ cs'[o + 2]? = some (.int .i64 x.2.2.1) ∧ RowAt w.heap.size 106 2 Lab.cells w' cs' (o + 3) x.2.2.2.1 ∧ RowAt w.heap.size 108 3 Req.cells w' cs' (o + 4) x.2.2.2.2.1 ∧ RowAt w.heap.size 106 2 Lab.cells w' cs' (o + 5) x.2.2.2.2.2.1 ∧ cs'[o + 6]? = some (.int .i64 x.2.2.2.2.2.2))) := by
  have H0 := Lib.hid h
  have hp0 := h.rs.lt
  have ht0 := h.tk.lt
  clear h
  go_enter Try.func37, Try.ntmps37
  go_wp2_with fail
  refine (numI_rd H0.out (o) (by omega)).mono ?_
  rintro e w1 ⟨rfl, st1, cs1, hR1, tk1, F1, one1, T1, S1⟩
  have H1 := Lib.hid (H0.out.next hR1 tk1 one1 T1)
  have K1 := Lib.hid (And.intro F1 (And.intro F1 (And.intro T1 S1)))
  clear hR1 tk1 F1 one1 T1 S1
  go_wp2_with fail
  refine (res_rd H1.out (o + 1) (by rw [K1.out.1.size]; omega)).mono ?_
  rintro e w2 ⟨rfl, st2, cs2, hR2, tk2, F2, one2, T2, S2⟩
  have H2 := Lib.hid (H1.out.next hR2 tk2 one2 T2)
  have K2 := Lib.hid (And.intro (K1.out.1.trans F2 (by omega) (by omega) (by omega) (by omega) : Fr cs cs2 o 3) (And.intro F2 (And.intro T2 S2)))
  clear hR2 tk2 F2 one2 T2 S2
  go_wp2_with fail
  refine (rowLab_rd H2.out (o + 3) (by rw [K2.out.1.size]; omega) (by exact (K2.out.1.out (o + 3) (.inr (by omega))).trans hz3)).mono ?_
  rintro e w3 ⟨rfl, st3, cs3, hR3, tk3, F3, one3, T3, S3⟩
  have H3 := Lib.hid (H2.out.next hR3 tk3 one3 T3)
  have K3 := Lib.hid (And.intro (K2.out.1.trans F3 (by omega) (by omega) (by omega) (by omega) : Fr cs cs3 o 4) (And.intro F3 (And.intro T3 S3)))
  clear hR3 tk3 F3 one3 T3 S3
  go_wp2_with fail
  refine (rowReq_rd H3.out (o + 4) (by rw [K3.out.1.size]; omega) (by exact (K3.out.1.out (o + 4) (.inr (by omega))).trans hz4)).mono ?_
  rintro e w4 ⟨rfl, st4, cs4, hR4, tk4, F4, one4, T4, S4⟩
  have H4 := Lib.hid (H3.out.next hR4 tk4 one4 T4)
  have K4 := Lib.hid (And.intro (K3.out.1.trans F4 (by omega) (by omega) (by omega) (by omega) : Fr cs cs4 o 5) (And.intro F4 (And.intro T4 S4)))
  clear hR4 tk4 F4 one4 T4 S4
  go_wp2_with fail
  refine (rowLab_rd H4.out (o + 5) (by rw [K4.out.1.size]; omega) (by exact (K4.out.1.out (o + 5) (.inr (by omega))).trans hz5)).mono ?_
  rintro e w5 ⟨rfl, st5, cs5, hR5, tk5, F5, one5, T5, S5⟩
  have H5 := Lib.hid (H4.out.next hR5 tk5 one5 T5)
  have K5 := Lib.hid (And.intro (K4.out.1.trans F5 (by omega) (by omega) (by omega) (by omega) : Fr cs cs5 o 6) (And.intro F5 (And.intro T5 S5)))
  clear hR5 tk5 F5 one5 T5 S5
  go_wp2_with fail
  refine (numI_rd H5.out (o + 6) (by rw [K5.out.1.size]; omega)).mono ?_
  rintro e w6 ⟨rfl, st6, cs6, hR6, tk6, F6, one6, T6, S6⟩
  have H6 := Lib.hid (H5.out.next hR6 tk6 one6 T6)
  have K6 := Lib.hid (And.intro (K5.out.1.trans F6 (by omega) (by omega) (by omega) (by omega) : Fr cs cs6 o 7) (And.intro F6 (And.intro T6 S6)))
  clear hR6 tk6 F6 one6 T6 S6
  have HF := Lib.hid (show RPost p r t ty o 7 st cs w dWl (fun w' cs' x => cs'[o]? = some (.int .i64 x.1) ∧ cs'[o + 1]? = some (.int .i64 x.2.1) ∧ cs'[o + 2]? = some (.int .i64 x.2.2.1) ∧ RowAt w.heap.size 106 2 Lab.cells w' cs' (o + 3) x.2.2.2.1 ∧ RowAt w.heap.size 108 3 Req.cells w' cs' (o + 4) x.2.2.2.2.1 ∧ RowAt w.heap.size 106 2 Lab.cells w' cs' (o + 5) x.2.2.2.2.2.1 ∧ cs'[o + 6]? = some (.int .i64 x.2.2.2.2.2.2)) (.returned (.tuple #[])) w6 from by
    have FF5 := K6.out.2.1
    have TT5 := K6.out.2.2.1
    have FF4 : Fr cs4 cs6 (o + 5) 2 := K5.out.2.1.trans FF5 (by omega) (by omega) (by omega) (by omega)
    have TT4 := K5.out.2.2.1.trans TT5 (.inl rfl)
    have FF3 : Fr cs3 cs6 (o + 4) 3 := K4.out.2.1.trans FF4 (by omega) (by omega) (by omega) (by omega)
    have TT3 := K4.out.2.2.1.trans TT4 (.inl rfl)
    have FF2 : Fr cs2 cs6 (o + 3) 4 := K3.out.2.1.trans FF3 (by omega) (by omega) (by omega) (by omega)
    have TT2 := K3.out.2.2.1.trans TT3 (.inl rfl)
    have FF1 : Fr cs1 cs6 (o + 1) 6 := K2.out.2.1.trans FF2 (by omega) (by omega) (by omega) (by omega)
    have TT1 := K2.out.2.2.1.trans TT2 (.inl rfl)
    have FF0 : Fr cs cs6 (o) 7 := K1.out.2.1.trans FF1 (by omega) (by omega) (by omega) (by omega)
    have TT0 := K1.out.2.2.1.trans TT1 (.inl rfl)
    have Z0 : w.heap.size ≤ w.heap.size := Nat.le_refl _
    have Z1 : w.heap.size ≤ w1.heap.size := Nat.le_trans Z0 K1.out.2.2.1.size
    have Z2 : w.heap.size ≤ w2.heap.size := Nat.le_trans Z1 K2.out.2.2.1.size
    have Z3 : w.heap.size ≤ w3.heap.size := Nat.le_trans Z2 K3.out.2.2.1.size
    have Z4 : w.heap.size ≤ w4.heap.size := Nat.le_trans Z3 K4.out.2.2.1.size
    have Z5 : w.heap.size ≤ w5.heap.size := Nat.le_trans Z4 K5.out.2.2.1.size
    exact ⟨rfl, st6, cs6, H6.out.rs, H6.out.tk, FF0, H6.out.one, TT0, (((K1.out.2.2.2.mono (Y := fun x => cs6[o]? = some (.int .i64 x)) (fun x hx => (FF1.out (o) (.inl (by omega))).trans hx)).pair ((K2.out.2.2.2.mono (Y := fun x => (cs6[o + 1]? = some (.int .i64 x.1) ∧ cs6[o + 2]? = some (.int .i64 x.2))) (fun x hx => ⟨(FF2.out (o + 1) (.inl (by omega))).trans hx.1, (FF2.out (o + 2) (.inl (by omega))).trans hx.2⟩)).assoc ((K3.out.2.2.2.mono (Y := fun x => RowAt w.heap.size 106 2 Lab.cells w6 cs6 (o + 3) x) (fun x hx => RowAt.move (p := p) (t := t) hx Z2 TT3 hp0 ht0 (FF3.out (o + 3) (.inl (by omega))))).pair ((K4.out.2.2.2.mono (Y := fun x => RowAt w.heap.size 108 3 Req.cells w6 cs6 (o + 4) x) (fun x hx => RowAt.move (p := p) (t := t) hx Z3 TT4 hp0 ht0 (FF4.out (o + 4) (.inl (by omega))))).pair ((K5.out.2.2.2.mono (Y := fun x => RowAt w.heap.size 106 2 Lab.cells w6 cs6 (o + 5) x) (fun x hx => RowAt.move (p := p) (t := t) hx Z4 TT5 hp0 ht0 (FF5.out (o + 5) (.inl (by omega))))).pair K6.out.2.2.2)))))).mono (fun x hx => by first | exact hx | simpa [and_assoc] using hx)⟩)
  go_wp2_with fail
  exact bodyPost_end (results_none rfl _ _ _) rfl HF.out
set_option maxHeartbeats 1000000 in
set_option maxRecDepth 100000 in
theorem pd_rd {w : World} {p : Nat} {r : Option Nat} {fb t : Nat} {ty : TypeId} {cs : Array Value} {st : Option (List UInt8)} (h : RPre w p r fb t ty cs st) (o : Nat) (ho : o + 10 ≤ cs.size) (hz6 : cs[o + 6]? = some (.slice none 0 0)) (hz7 : cs[o + 7]? = some (.slice none 0 0)) (hz8 : cs[o + 8]? = some (.slice none 0 0)) :
    Calls Try.prog 38 #[.pointer (some ⟨fb, 0, none⟩), .pointer (some ⟨t, o, none⟩)] w (RPost p r t ty o 10 st cs w dPd (fun w' cs' x => cs'[o]? = some (.string x.1) ∧ cs'[o + 1]? = some (.string x.2.1) ∧ cs'[o + 2]? = some (.int .i64 x.2.2.1) ∧ cs'[o + 3]? = some (.int .i64 x.2.2.2.1) ∧ cs'[o + 4]? = some (.int .i64 x.2.2.2.2.1) ∧ cs'[o + 5]? = some (.int .i64 x.2.2.2.2.2.1) ∧ RowAt w.heap.size 106 2 Lab.cells w' cs' (o + 6) x.2.2.2.2.2.2.1 ∧ RowAt w.heap.size 108 3 Req.cells w' cs' (o + 7) x.2.2.2.2.2.2.2.1 ∧ RowAt w.heap.size 106 2 Lab.cells w' cs' (o + 8) x.2.2.2.2.2.2.2.2.1 ∧ cs'[o + 9]? = some (.int .i64 x.2.2.2.2.2.2.2.2.2))) := by
  have H0 := Lib.hid h
  have hp0 := h.rs.lt
  have ht0 := h.tk.lt
  clear h
  go_enter Try.func38, Try.ntmps38
  go_wp2_with fail
  refine (text_rd H0.out (o) (by omega)).mono ?_
  rintro e w1 ⟨rfl, st1, cs1, hR1, tk1, F1, one1, T1, S1⟩
  have H1 := Lib.hid (H0.out.next hR1 tk1 one1 T1)
  have K1 := Lib.hid (And.intro F1 (And.intro F1 (And.intro T1 S1)))
  clear hR1 tk1 F1 one1 T1 S1
  go_wp2_with fail
  refine (text_rd H1.out (o + 1) (by rw [K1.out.1.size]; omega)).mono ?_
  rintro e w2 ⟨rfl, st2, cs2, hR2, tk2, F2, one2, T2, S2⟩
  have H2 := Lib.hid (H1.out.next hR2 tk2 one2 T2)
  have K2 := Lib.hid (And.intro (K1.out.1.trans F2 (by omega) (by omega) (by omega) (by omega) : Fr cs cs2 o 2) (And.intro F2 (And.intro T2 S2)))
  clear hR2 tk2 F2 one2 T2 S2
  go_wp2_with fail
  refine (numI_rd H2.out (o + 2) (by rw [K2.out.1.size]; omega)).mono ?_
  rintro e w3 ⟨rfl, st3, cs3, hR3, tk3, F3, one3, T3, S3⟩
  have H3 := Lib.hid (H2.out.next hR3 tk3 one3 T3)
  have K3 := Lib.hid (And.intro (K2.out.1.trans F3 (by omega) (by omega) (by omega) (by omega) : Fr cs cs3 o 3) (And.intro F3 (And.intro T3 S3)))
  clear hR3 tk3 F3 one3 T3 S3
  go_wp2_with fail
  refine (numL_rd H3.out (o + 3) (by rw [K3.out.1.size]; omega)).mono ?_
  rintro e w4 ⟨rfl, st4, cs4, hR4, tk4, F4, one4, T4, S4⟩
  have H4 := Lib.hid (H3.out.next hR4 tk4 one4 T4)
  have K4 := Lib.hid (And.intro (K3.out.1.trans F4 (by omega) (by omega) (by omega) (by omega) : Fr cs cs4 o 4) (And.intro F4 (And.intro T4 S4)))
  clear hR4 tk4 F4 one4 T4 S4
  go_wp2_with fail
  refine (res_rd H4.out (o + 4) (by rw [K4.out.1.size]; omega)).mono ?_
  rintro e w5 ⟨rfl, st5, cs5, hR5, tk5, F5, one5, T5, S5⟩
  have H5 := Lib.hid (H4.out.next hR5 tk5 one5 T5)
  have K5 := Lib.hid (And.intro (K4.out.1.trans F5 (by omega) (by omega) (by omega) (by omega) : Fr cs cs5 o 6) (And.intro F5 (And.intro T5 S5)))
  clear hR5 tk5 F5 one5 T5 S5
  go_wp2_with fail
  refine (rowLab_rd H5.out (o + 6) (by rw [K5.out.1.size]; omega) (by exact (K5.out.1.out (o + 6) (.inr (by omega))).trans hz6)).mono ?_
  rintro e w6 ⟨rfl, st6, cs6, hR6, tk6, F6, one6, T6, S6⟩
  have H6 := Lib.hid (H5.out.next hR6 tk6 one6 T6)
  have K6 := Lib.hid (And.intro (K5.out.1.trans F6 (by omega) (by omega) (by omega) (by omega) : Fr cs cs6 o 7) (And.intro F6 (And.intro T6 S6)))
  clear hR6 tk6 F6 one6 T6 S6
  go_wp2_with fail
  refine (rowReq_rd H6.out (o + 7) (by rw [K6.out.1.size]; omega) (by exact (K6.out.1.out (o + 7) (.inr (by omega))).trans hz7)).mono ?_
  rintro e w7 ⟨rfl, st7, cs7, hR7, tk7, F7, one7, T7, S7⟩
  have H7 := Lib.hid (H6.out.next hR7 tk7 one7 T7)
  have K7 := Lib.hid (And.intro (K6.out.1.trans F7 (by omega) (by omega) (by omega) (by omega) : Fr cs cs7 o 8) (And.intro F7 (And.intro T7 S7)))
  clear hR7 tk7 F7 one7 T7 S7
  go_wp2_with fail
  refine (rowLab_rd H7.out (o + 8) (by rw [K7.out.1.size]; omega) (by exact (K7.out.1.out (o + 8) (.inr (by omega))).trans hz8)).mono ?_
  rintro e w8 ⟨rfl, st8, cs8, hR8, tk8, F8, one8, T8, S8⟩
  have H8 := Lib.hid (H7.out.next hR8 tk8 one8 T8)
  have K8 := Lib.hid (And.intro (K7.out.1.trans F8 (by omega) (by omega) (by omega) (by omega) : Fr cs cs8 o 9) (And.intro F8 (And.intro T8 S8)))
  clear hR8 tk8 F8 one8 T8 S8
  go_wp2_with fail
  refine (numI_rd H8.out (o + 9) (by rw [K8.out.1.size]; omega)).mono ?_
  rintro e w9 ⟨rfl, st9, cs9, hR9, tk9, F9, one9, T9, S9⟩
  have H9 := Lib.hid (H8.out.next hR9 tk9 one9 T9)
  have K9 := Lib.hid (And.intro (K8.out.1.trans F9 (by omega) (by omega) (by omega) (by omega) : Fr cs cs9 o 10) (And.intro F9 (And.intro T9 S9)))
  clear hR9 tk9 F9 one9 T9 S9
  have HF := Lib.hid (show RPost p r t ty o 10 st cs w dPd (fun w' cs' x => cs'[o]? = some (.string x.1) ∧ cs'[o + 1]? = some (.string x.2.1) ∧ cs'[o + 2]? = some (.int .i64 x.2.2.1) ∧ cs'[o + 3]? = some (.int .i64 x.2.2.2.1) ∧ cs'[o + 4]? = some (.int .i64 x.2.2.2.2.1) ∧ cs'[o + 5]? = some (.int .i64 x.2.2.2.2.2.1) ∧ RowAt w.heap.size 106 2 Lab.cells w' cs' (o + 6) x.2.2.2.2.2.2.1 ∧ RowAt w.heap.size 108 3 Req.cells w' cs' (o + 7) x.2.2.2.2.2.2.2.1 ∧ RowAt w.heap.size 106 2 Lab.cells w' cs' (o + 8) x.2.2.2.2.2.2.2.2.1 ∧ cs'[o + 9]? = some (.int .i64 x.2.2.2.2.2.2.2.2.2)) (.returned (.tuple #[])) w9 from by
    have FF8 := K9.out.2.1
    have TT8 := K9.out.2.2.1
    have FF7 : Fr cs7 cs9 (o + 8) 2 := K8.out.2.1.trans FF8 (by omega) (by omega) (by omega) (by omega)
    have TT7 := K8.out.2.2.1.trans TT8 (.inl rfl)
    have FF6 : Fr cs6 cs9 (o + 7) 3 := K7.out.2.1.trans FF7 (by omega) (by omega) (by omega) (by omega)
    have TT6 := K7.out.2.2.1.trans TT7 (.inl rfl)
    have FF5 : Fr cs5 cs9 (o + 6) 4 := K6.out.2.1.trans FF6 (by omega) (by omega) (by omega) (by omega)
    have TT5 := K6.out.2.2.1.trans TT6 (.inl rfl)
    have FF4 : Fr cs4 cs9 (o + 4) 6 := K5.out.2.1.trans FF5 (by omega) (by omega) (by omega) (by omega)
    have TT4 := K5.out.2.2.1.trans TT5 (.inl rfl)
    have FF3 : Fr cs3 cs9 (o + 3) 7 := K4.out.2.1.trans FF4 (by omega) (by omega) (by omega) (by omega)
    have TT3 := K4.out.2.2.1.trans TT4 (.inl rfl)
    have FF2 : Fr cs2 cs9 (o + 2) 8 := K3.out.2.1.trans FF3 (by omega) (by omega) (by omega) (by omega)
    have TT2 := K3.out.2.2.1.trans TT3 (.inl rfl)
    have FF1 : Fr cs1 cs9 (o + 1) 9 := K2.out.2.1.trans FF2 (by omega) (by omega) (by omega) (by omega)
    have TT1 := K2.out.2.2.1.trans TT2 (.inl rfl)
    have FF0 : Fr cs cs9 (o) 10 := K1.out.2.1.trans FF1 (by omega) (by omega) (by omega) (by omega)
    have TT0 := K1.out.2.2.1.trans TT1 (.inl rfl)
    have Z0 : w.heap.size ≤ w.heap.size := Nat.le_refl _
    have Z1 : w.heap.size ≤ w1.heap.size := Nat.le_trans Z0 K1.out.2.2.1.size
    have Z2 : w.heap.size ≤ w2.heap.size := Nat.le_trans Z1 K2.out.2.2.1.size
    have Z3 : w.heap.size ≤ w3.heap.size := Nat.le_trans Z2 K3.out.2.2.1.size
    have Z4 : w.heap.size ≤ w4.heap.size := Nat.le_trans Z3 K4.out.2.2.1.size
    have Z5 : w.heap.size ≤ w5.heap.size := Nat.le_trans Z4 K5.out.2.2.1.size
    have Z6 : w.heap.size ≤ w6.heap.size := Nat.le_trans Z5 K6.out.2.2.1.size
    have Z7 : w.heap.size ≤ w7.heap.size := Nat.le_trans Z6 K7.out.2.2.1.size
    have Z8 : w.heap.size ≤ w8.heap.size := Nat.le_trans Z7 K8.out.2.2.1.size
    exact ⟨rfl, st9, cs9, H9.out.rs, H9.out.tk, FF0, H9.out.one, TT0, (((K1.out.2.2.2.mono (Y := fun x => cs9[o]? = some (.string x)) (fun x hx => (FF1.out (o) (.inl (by omega))).trans hx)).pair ((K2.out.2.2.2.mono (Y := fun x => cs9[o + 1]? = some (.string x)) (fun x hx => (FF2.out (o + 1) (.inl (by omega))).trans hx)).pair ((K3.out.2.2.2.mono (Y := fun x => cs9[o + 2]? = some (.int .i64 x)) (fun x hx => (FF3.out (o + 2) (.inl (by omega))).trans hx)).pair ((K4.out.2.2.2.mono (Y := fun x => cs9[o + 3]? = some (.int .i64 x)) (fun x hx => (FF4.out (o + 3) (.inl (by omega))).trans hx)).pair ((K5.out.2.2.2.mono (Y := fun x => (cs9[o + 4]? = some (.int .i64 x.1) ∧ cs9[o + 5]? = some (.int .i64 x.2))) (fun x hx => ⟨(FF5.out (o + 4) (.inl (by omega))).trans hx.1, (FF5.out (o + 5) (.inl (by omega))).trans hx.2⟩)).assoc ((K6.out.2.2.2.mono (Y := fun x => RowAt w.heap.size 106 2 Lab.cells w9 cs9 (o + 6) x) (fun x hx => RowAt.move (p := p) (t := t) hx Z5 TT6 hp0 ht0 (FF6.out (o + 6) (.inl (by omega))))).pair ((K7.out.2.2.2.mono (Y := fun x => RowAt w.heap.size 108 3 Req.cells w9 cs9 (o + 7) x) (fun x hx => RowAt.move (p := p) (t := t) hx Z6 TT7 hp0 ht0 (FF7.out (o + 7) (.inl (by omega))))).pair ((K8.out.2.2.2.mono (Y := fun x => RowAt w.heap.size 106 2 Lab.cells w9 cs9 (o + 8) x) (fun x hx => RowAt.move (p := p) (t := t) hx Z7 TT8 hp0 ht0 (FF8.out (o + 8) (.inl (by omega))))).pair K9.out.2.2.2))))))))).mono (fun x hx => by first | exact hx | simpa [and_assoc] using hx)⟩)
  go_wp2_with fail
  exact bodyPost_end (results_none rfl _ _ _) rfl HF.out
set_option maxHeartbeats 1000000 in
set_option maxRecDepth 100000 in
theorem nd_rd {w : World} {p : Nat} {r : Option Nat} {fb t : Nat} {ty : TypeId} {cs : Array Value} {st : Option (List UInt8)} (h : RPre w p r fb t ty cs st) (o : Nat) (ho : o + 7 ≤ cs.size) (hz3 : cs[o + 3]? = some (.slice none 0 0)) (hz4 : cs[o + 4]? = some (.slice none 0 0)) :
    Calls Try.prog 39 #[.pointer (some ⟨fb, 0, none⟩), .pointer (some ⟨t, o, none⟩)] w (RPost p r t ty o 7 st cs w dNd (fun w' cs' x => cs'[o]? = some (.string x.1) ∧ cs'[o + 1]? = some (.int .i64 x.2.1) ∧ cs'[o + 2]? = some (.int .i64 x.2.2.1) ∧ RowAt w.heap.size 106 2 Lab.cells w' cs' (o + 3) x.2.2.2.1 ∧ RowAt w.heap.size 106 2 Lab.cells w' cs' (o + 4) x.2.2.2.2.1 ∧ cs'[o + 5]? = some (.int .i64 x.2.2.2.2.2.1) ∧ cs'[o + 6]? = some (.bool x.2.2.2.2.2.2))) := by
  have H0 := Lib.hid h
  have hp0 := h.rs.lt
  have ht0 := h.tk.lt
  clear h
  go_enter Try.func39, Try.ntmps39
  go_wp2_with fail
  refine (text_rd H0.out (o) (by omega)).mono ?_
  rintro e w1 ⟨rfl, st1, cs1, hR1, tk1, F1, one1, T1, S1⟩
  have H1 := Lib.hid (H0.out.next hR1 tk1 one1 T1)
  have K1 := Lib.hid (And.intro F1 (And.intro F1 (And.intro T1 S1)))
  clear hR1 tk1 F1 one1 T1 S1
  go_wp2_with fail
  refine (res_rd H1.out (o + 1) (by rw [K1.out.1.size]; omega)).mono ?_
  rintro e w2 ⟨rfl, st2, cs2, hR2, tk2, F2, one2, T2, S2⟩
  have H2 := Lib.hid (H1.out.next hR2 tk2 one2 T2)
  have K2 := Lib.hid (And.intro (K1.out.1.trans F2 (by omega) (by omega) (by omega) (by omega) : Fr cs cs2 o 3) (And.intro F2 (And.intro T2 S2)))
  clear hR2 tk2 F2 one2 T2 S2
  go_wp2_with fail
  refine (rowLab_rd H2.out (o + 3) (by rw [K2.out.1.size]; omega) (by exact (K2.out.1.out (o + 3) (.inr (by omega))).trans hz3)).mono ?_
  rintro e w3 ⟨rfl, st3, cs3, hR3, tk3, F3, one3, T3, S3⟩
  have H3 := Lib.hid (H2.out.next hR3 tk3 one3 T3)
  have K3 := Lib.hid (And.intro (K2.out.1.trans F3 (by omega) (by omega) (by omega) (by omega) : Fr cs cs3 o 4) (And.intro F3 (And.intro T3 S3)))
  clear hR3 tk3 F3 one3 T3 S3
  go_wp2_with fail
  refine (rowLab_rd H3.out (o + 4) (by rw [K3.out.1.size]; omega) (by exact (K3.out.1.out (o + 4) (.inr (by omega))).trans hz4)).mono ?_
  rintro e w4 ⟨rfl, st4, cs4, hR4, tk4, F4, one4, T4, S4⟩
  have H4 := Lib.hid (H3.out.next hR4 tk4 one4 T4)
  have K4 := Lib.hid (And.intro (K3.out.1.trans F4 (by omega) (by omega) (by omega) (by omega) : Fr cs cs4 o 5) (And.intro F4 (And.intro T4 S4)))
  clear hR4 tk4 F4 one4 T4 S4
  go_wp2_with fail
  refine (numL_rd H4.out (o + 5) (by rw [K4.out.1.size]; omega)).mono ?_
  rintro e w5 ⟨rfl, st5, cs5, hR5, tk5, F5, one5, T5, S5⟩
  have H5 := Lib.hid (H4.out.next hR5 tk5 one5 T5)
  have K5 := Lib.hid (And.intro (K4.out.1.trans F5 (by omega) (by omega) (by omega) (by omega) : Fr cs cs5 o 6) (And.intro F5 (And.intro T5 S5)))
  clear hR5 tk5 F5 one5 T5 S5
  go_wp2_with fail
  refine (truth_rd H5.out (o + 6) (by rw [K5.out.1.size]; omega)).mono ?_
  rintro e w6 ⟨rfl, st6, cs6, hR6, tk6, F6, one6, T6, S6⟩
  have H6 := Lib.hid (H5.out.next hR6 tk6 one6 T6)
  have K6 := Lib.hid (And.intro (K5.out.1.trans F6 (by omega) (by omega) (by omega) (by omega) : Fr cs cs6 o 7) (And.intro F6 (And.intro T6 S6)))
  clear hR6 tk6 F6 one6 T6 S6
  have HF := Lib.hid (show RPost p r t ty o 7 st cs w dNd (fun w' cs' x => cs'[o]? = some (.string x.1) ∧ cs'[o + 1]? = some (.int .i64 x.2.1) ∧ cs'[o + 2]? = some (.int .i64 x.2.2.1) ∧ RowAt w.heap.size 106 2 Lab.cells w' cs' (o + 3) x.2.2.2.1 ∧ RowAt w.heap.size 106 2 Lab.cells w' cs' (o + 4) x.2.2.2.2.1 ∧ cs'[o + 5]? = some (.int .i64 x.2.2.2.2.2.1) ∧ cs'[o + 6]? = some (.bool x.2.2.2.2.2.2)) (.returned (.tuple #[])) w6 from by
    have FF5 := K6.out.2.1
    have TT5 := K6.out.2.2.1
    have FF4 : Fr cs4 cs6 (o + 5) 2 := K5.out.2.1.trans FF5 (by omega) (by omega) (by omega) (by omega)
    have TT4 := K5.out.2.2.1.trans TT5 (.inl rfl)
    have FF3 : Fr cs3 cs6 (o + 4) 3 := K4.out.2.1.trans FF4 (by omega) (by omega) (by omega) (by omega)
    have TT3 := K4.out.2.2.1.trans TT4 (.inl rfl)
    have FF2 : Fr cs2 cs6 (o + 3) 4 := K3.out.2.1.trans FF3 (by omega) (by omega) (by omega) (by omega)
    have TT2 := K3.out.2.2.1.trans TT3 (.inl rfl)
    have FF1 : Fr cs1 cs6 (o + 1) 6 := K2.out.2.1.trans FF2 (by omega) (by omega) (by omega) (by omega)
    have TT1 := K2.out.2.2.1.trans TT2 (.inl rfl)
    have FF0 : Fr cs cs6 (o) 7 := K1.out.2.1.trans FF1 (by omega) (by omega) (by omega) (by omega)
    have TT0 := K1.out.2.2.1.trans TT1 (.inl rfl)
    have Z0 : w.heap.size ≤ w.heap.size := Nat.le_refl _
    have Z1 : w.heap.size ≤ w1.heap.size := Nat.le_trans Z0 K1.out.2.2.1.size
    have Z2 : w.heap.size ≤ w2.heap.size := Nat.le_trans Z1 K2.out.2.2.1.size
    have Z3 : w.heap.size ≤ w3.heap.size := Nat.le_trans Z2 K3.out.2.2.1.size
    have Z4 : w.heap.size ≤ w4.heap.size := Nat.le_trans Z3 K4.out.2.2.1.size
    have Z5 : w.heap.size ≤ w5.heap.size := Nat.le_trans Z4 K5.out.2.2.1.size
    exact ⟨rfl, st6, cs6, H6.out.rs, H6.out.tk, FF0, H6.out.one, TT0, (((K1.out.2.2.2.mono (Y := fun x => cs6[o]? = some (.string x)) (fun x hx => (FF1.out (o) (.inl (by omega))).trans hx)).pair ((K2.out.2.2.2.mono (Y := fun x => (cs6[o + 1]? = some (.int .i64 x.1) ∧ cs6[o + 2]? = some (.int .i64 x.2))) (fun x hx => ⟨(FF2.out (o + 1) (.inl (by omega))).trans hx.1, (FF2.out (o + 2) (.inl (by omega))).trans hx.2⟩)).assoc ((K3.out.2.2.2.mono (Y := fun x => RowAt w.heap.size 106 2 Lab.cells w6 cs6 (o + 3) x) (fun x hx => RowAt.move (p := p) (t := t) hx Z2 TT3 hp0 ht0 (FF3.out (o + 3) (.inl (by omega))))).pair ((K4.out.2.2.2.mono (Y := fun x => RowAt w.heap.size 106 2 Lab.cells w6 cs6 (o + 4) x) (fun x hx => RowAt.move (p := p) (t := t) hx Z3 TT4 hp0 ht0 (FF4.out (o + 4) (.inl (by omega))))).pair ((K5.out.2.2.2.mono (Y := fun x => cs6[o + 5]? = some (.int .i64 x)) (fun x hx => (FF5.out (o + 5) (.inl (by omega))).trans hx)).pair K6.out.2.2.2)))))).mono (fun x hx => by first | exact hx | simpa [and_assoc] using hx)⟩)
  go_wp2_with fail
  exact bodyPost_end (results_none rfl _ _ _) rfl HF.out
set_option maxHeartbeats 1000000 in
set_option maxRecDepth 100000 in
theorem gr_rd {w : World} {p : Nat} {r : Option Nat} {fb t : Nat} {ty : TypeId} {cs : Array Value} {st : Option (List UInt8)} (h : RPre w p r fb t ty cs st) (o : Nat) (ho : o + 8 ≤ cs.size) (hz5 : cs[o + 5]? = some (.slice none 0 0)) (hz6 : cs[o + 6]? = some (.slice none 0 0)) :
    Calls Try.prog 40 #[.pointer (some ⟨fb, 0, none⟩), .pointer (some ⟨t, o, none⟩)] w (RPost p r t ty o 8 st cs w dGr (fun w' cs' x => cs'[o]? = some (.int .i64 x.1) ∧ cs'[o + 1]? = some (.int .i64 x.2.1) ∧ cs'[o + 2]? = some (.int .i64 x.2.2.1) ∧ cs'[o + 3]? = some (.int .i64 x.2.2.2.1) ∧ cs'[o + 4]? = some (.int .i64 x.2.2.2.2.1) ∧ RowAt w.heap.size 106 2 Lab.cells w' cs' (o + 5) x.2.2.2.2.2.1 ∧ RowAt w.heap.size 106 2 Lab.cells w' cs' (o + 6) x.2.2.2.2.2.2.1 ∧ cs'[o + 7]? = some (.int .i64 x.2.2.2.2.2.2.2))) := by
  have H0 := Lib.hid h
  have hp0 := h.rs.lt
  have ht0 := h.tk.lt
  clear h
  go_enter Try.func40, Try.ntmps40
  go_wp2_with fail
  refine (numI_rd H0.out (o) (by omega)).mono ?_
  rintro e w1 ⟨rfl, st1, cs1, hR1, tk1, F1, one1, T1, S1⟩
  have H1 := Lib.hid (H0.out.next hR1 tk1 one1 T1)
  have K1 := Lib.hid (And.intro F1 (And.intro F1 (And.intro T1 S1)))
  clear hR1 tk1 F1 one1 T1 S1
  go_wp2_with fail
  refine (numI_rd H1.out (o + 1) (by rw [K1.out.1.size]; omega)).mono ?_
  rintro e w2 ⟨rfl, st2, cs2, hR2, tk2, F2, one2, T2, S2⟩
  have H2 := Lib.hid (H1.out.next hR2 tk2 one2 T2)
  have K2 := Lib.hid (And.intro (K1.out.1.trans F2 (by omega) (by omega) (by omega) (by omega) : Fr cs cs2 o 2) (And.intro F2 (And.intro T2 S2)))
  clear hR2 tk2 F2 one2 T2 S2
  go_wp2_with fail
  refine (numI_rd H2.out (o + 2) (by rw [K2.out.1.size]; omega)).mono ?_
  rintro e w3 ⟨rfl, st3, cs3, hR3, tk3, F3, one3, T3, S3⟩
  have H3 := Lib.hid (H2.out.next hR3 tk3 one3 T3)
  have K3 := Lib.hid (And.intro (K2.out.1.trans F3 (by omega) (by omega) (by omega) (by omega) : Fr cs cs3 o 3) (And.intro F3 (And.intro T3 S3)))
  clear hR3 tk3 F3 one3 T3 S3
  go_wp2_with fail
  refine (res_rd H3.out (o + 3) (by rw [K3.out.1.size]; omega)).mono ?_
  rintro e w4 ⟨rfl, st4, cs4, hR4, tk4, F4, one4, T4, S4⟩
  have H4 := Lib.hid (H3.out.next hR4 tk4 one4 T4)
  have K4 := Lib.hid (And.intro (K3.out.1.trans F4 (by omega) (by omega) (by omega) (by omega) : Fr cs cs4 o 5) (And.intro F4 (And.intro T4 S4)))
  clear hR4 tk4 F4 one4 T4 S4
  go_wp2_with fail
  refine (rowLab_rd H4.out (o + 5) (by rw [K4.out.1.size]; omega) (by exact (K4.out.1.out (o + 5) (.inr (by omega))).trans hz5)).mono ?_
  rintro e w5 ⟨rfl, st5, cs5, hR5, tk5, F5, one5, T5, S5⟩
  have H5 := Lib.hid (H4.out.next hR5 tk5 one5 T5)
  have K5 := Lib.hid (And.intro (K4.out.1.trans F5 (by omega) (by omega) (by omega) (by omega) : Fr cs cs5 o 6) (And.intro F5 (And.intro T5 S5)))
  clear hR5 tk5 F5 one5 T5 S5
  go_wp2_with fail
  refine (rowLab_rd H5.out (o + 6) (by rw [K5.out.1.size]; omega) (by exact (K5.out.1.out (o + 6) (.inr (by omega))).trans hz6)).mono ?_
  rintro e w6 ⟨rfl, st6, cs6, hR6, tk6, F6, one6, T6, S6⟩
  have H6 := Lib.hid (H5.out.next hR6 tk6 one6 T6)
  have K6 := Lib.hid (And.intro (K5.out.1.trans F6 (by omega) (by omega) (by omega) (by omega) : Fr cs cs6 o 7) (And.intro F6 (And.intro T6 S6)))
  clear hR6 tk6 F6 one6 T6 S6
  go_wp2_with fail
  refine (numI_rd H6.out (o + 7) (by rw [K6.out.1.size]; omega)).mono ?_
  rintro e w7 ⟨rfl, st7, cs7, hR7, tk7, F7, one7, T7, S7⟩
  have H7 := Lib.hid (H6.out.next hR7 tk7 one7 T7)
  have K7 := Lib.hid (And.intro (K6.out.1.trans F7 (by omega) (by omega) (by omega) (by omega) : Fr cs cs7 o 8) (And.intro F7 (And.intro T7 S7)))
  clear hR7 tk7 F7 one7 T7 S7
  have HF := Lib.hid (show RPost p r t ty o 8 st cs w dGr (fun w' cs' x => cs'[o]? = some (.int .i64 x.1) ∧ cs'[o + 1]? = some (.int .i64 x.2.1) ∧ cs'[o + 2]? = some (.int .i64 x.2.2.1) ∧ cs'[o + 3]? = some (.int .i64 x.2.2.2.1) ∧ cs'[o + 4]? = some (.int .i64 x.2.2.2.2.1) ∧ RowAt w.heap.size 106 2 Lab.cells w' cs' (o + 5) x.2.2.2.2.2.1 ∧ RowAt w.heap.size 106 2 Lab.cells w' cs' (o + 6) x.2.2.2.2.2.2.1 ∧ cs'[o + 7]? = some (.int .i64 x.2.2.2.2.2.2.2)) (.returned (.tuple #[])) w7 from by
    have FF6 := K7.out.2.1
    have TT6 := K7.out.2.2.1
    have FF5 : Fr cs5 cs7 (o + 6) 2 := K6.out.2.1.trans FF6 (by omega) (by omega) (by omega) (by omega)
    have TT5 := K6.out.2.2.1.trans TT6 (.inl rfl)
    have FF4 : Fr cs4 cs7 (o + 5) 3 := K5.out.2.1.trans FF5 (by omega) (by omega) (by omega) (by omega)
    have TT4 := K5.out.2.2.1.trans TT5 (.inl rfl)
    have FF3 : Fr cs3 cs7 (o + 3) 5 := K4.out.2.1.trans FF4 (by omega) (by omega) (by omega) (by omega)
    have TT3 := K4.out.2.2.1.trans TT4 (.inl rfl)
    have FF2 : Fr cs2 cs7 (o + 2) 6 := K3.out.2.1.trans FF3 (by omega) (by omega) (by omega) (by omega)
    have TT2 := K3.out.2.2.1.trans TT3 (.inl rfl)
    have FF1 : Fr cs1 cs7 (o + 1) 7 := K2.out.2.1.trans FF2 (by omega) (by omega) (by omega) (by omega)
    have TT1 := K2.out.2.2.1.trans TT2 (.inl rfl)
    have FF0 : Fr cs cs7 (o) 8 := K1.out.2.1.trans FF1 (by omega) (by omega) (by omega) (by omega)
    have TT0 := K1.out.2.2.1.trans TT1 (.inl rfl)
    have Z0 : w.heap.size ≤ w.heap.size := Nat.le_refl _
    have Z1 : w.heap.size ≤ w1.heap.size := Nat.le_trans Z0 K1.out.2.2.1.size
    have Z2 : w.heap.size ≤ w2.heap.size := Nat.le_trans Z1 K2.out.2.2.1.size
    have Z3 : w.heap.size ≤ w3.heap.size := Nat.le_trans Z2 K3.out.2.2.1.size
    have Z4 : w.heap.size ≤ w4.heap.size := Nat.le_trans Z3 K4.out.2.2.1.size
    have Z5 : w.heap.size ≤ w5.heap.size := Nat.le_trans Z4 K5.out.2.2.1.size
    have Z6 : w.heap.size ≤ w6.heap.size := Nat.le_trans Z5 K6.out.2.2.1.size
    exact ⟨rfl, st7, cs7, H7.out.rs, H7.out.tk, FF0, H7.out.one, TT0, (((K1.out.2.2.2.mono (Y := fun x => cs7[o]? = some (.int .i64 x)) (fun x hx => (FF1.out (o) (.inl (by omega))).trans hx)).pair ((K2.out.2.2.2.mono (Y := fun x => cs7[o + 1]? = some (.int .i64 x)) (fun x hx => (FF2.out (o + 1) (.inl (by omega))).trans hx)).pair ((K3.out.2.2.2.mono (Y := fun x => cs7[o + 2]? = some (.int .i64 x)) (fun x hx => (FF3.out (o + 2) (.inl (by omega))).trans hx)).pair ((K4.out.2.2.2.mono (Y := fun x => (cs7[o + 3]? = some (.int .i64 x.1) ∧ cs7[o + 4]? = some (.int .i64 x.2))) (fun x hx => ⟨(FF4.out (o + 3) (.inl (by omega))).trans hx.1, (FF4.out (o + 4) (.inl (by omega))).trans hx.2⟩)).assoc ((K5.out.2.2.2.mono (Y := fun x => RowAt w.heap.size 106 2 Lab.cells w7 cs7 (o + 5) x) (fun x hx => RowAt.move (p := p) (t := t) hx Z4 TT5 hp0 ht0 (FF5.out (o + 5) (.inl (by omega))))).pair ((K6.out.2.2.2.mono (Y := fun x => RowAt w.heap.size 106 2 Lab.cells w7 cs7 (o + 6) x) (fun x hx => RowAt.move (p := p) (t := t) hx Z5 TT6 hp0 ht0 (FF6.out (o + 6) (.inl (by omega))))).pair K7.out.2.2.2))))))).mono (fun x hx => by first | exact hx | simpa [and_assoc] using hx)⟩)
  go_wp2_with fail
  exact bodyPost_end (results_none rfl _ _ _) rfl HF.out
set_option maxHeartbeats 1000000 in
set_option maxRecDepth 100000 in
theorem hp_rd {w : World} {p : Nat} {r : Option Nat} {fb t : Nat} {ty : TypeId} {cs : Array Value} {st : Option (List UInt8)} (h : RPre w p r fb t ty cs st) (o : Nat) (ho : o + 12 ≤ cs.size) (hz3 : cs[o + 3]? = some (.slice none 0 0)) (hz7 : cs[o + 7]? = some (.slice none 0 0)) (hz10 : cs[o + 10]? = some (.slice none 0 0)) (hz11 : cs[o + 11]? = some (.slice none 0 0)) :
    Calls Try.prog 41 #[.pointer (some ⟨fb, 0, none⟩), .pointer (some ⟨t, o, none⟩)] w (RPost p r t ty o 12 st cs w dHp (fun w' cs' x => cs'[o]? = some (.string x.1) ∧ cs'[o + 1]? = some (.int .i64 x.2.1) ∧ cs'[o + 2]? = some (.int .i64 x.2.2.1) ∧ RowAt w.heap.size 81 3 Mem.Met.cells w' cs' (o + 3) x.2.2.2.1 ∧ cs'[o + 4]? = some (.int .i64 x.2.2.2.2.1) ∧ (cs'[o + 5]? = some (.int .i64 x.2.2.2.2.2.1.1) ∧ cs'[o + 6]? = some (.int .i64 x.2.2.2.2.2.1.2.1) ∧ RowAt w.heap.size 110 3 Pol.cells w' cs' (o + 7) x.2.2.2.2.2.1.2.2) ∧ (cs'[o + 8]? = some (.int .i64 x.2.2.2.2.2.2.1.1) ∧ cs'[o + 9]? = some (.int .i64 x.2.2.2.2.2.2.1.2.1) ∧ RowAt w.heap.size 110 3 Pol.cells w' cs' (o + 10) x.2.2.2.2.2.2.1.2.2) ∧ RowAt w.heap.size 91 3 Done.cells w' cs' (o + 11) x.2.2.2.2.2.2.2)) := by
  have H0 := Lib.hid h
  have hp0 := h.rs.lt
  have ht0 := h.tk.lt
  clear h
  go_enter Try.func41, Try.ntmps41
  go_wp2_with fail
  refine (text_rd H0.out (o) (by omega)).mono ?_
  rintro e w1 ⟨rfl, st1, cs1, hR1, tk1, F1, one1, T1, S1⟩
  have H1 := Lib.hid (H0.out.next hR1 tk1 one1 T1)
  have K1 := Lib.hid (And.intro F1 (And.intro F1 (And.intro T1 S1)))
  clear hR1 tk1 F1 one1 T1 S1
  go_wp2_with fail
  refine (numI_rd H1.out (o + 1) (by rw [K1.out.1.size]; omega)).mono ?_
  rintro e w2 ⟨rfl, st2, cs2, hR2, tk2, F2, one2, T2, S2⟩
  have H2 := Lib.hid (H1.out.next hR2 tk2 one2 T2)
  have K2 := Lib.hid (And.intro (K1.out.1.trans F2 (by omega) (by omega) (by omega) (by omega) : Fr cs cs2 o 2) (And.intro F2 (And.intro T2 S2)))
  clear hR2 tk2 F2 one2 T2 S2
  go_wp2_with fail
  refine (numI_rd H2.out (o + 2) (by rw [K2.out.1.size]; omega)).mono ?_
  rintro e w3 ⟨rfl, st3, cs3, hR3, tk3, F3, one3, T3, S3⟩
  have H3 := Lib.hid (H2.out.next hR3 tk3 one3 T3)
  have K3 := Lib.hid (And.intro (K2.out.1.trans F3 (by omega) (by omega) (by omega) (by omega) : Fr cs cs3 o 3) (And.intro F3 (And.intro T3 S3)))
  clear hR3 tk3 F3 one3 T3 S3
  go_wp2_with fail
  refine (rowMet_rd H3.out (o + 3) (by rw [K3.out.1.size]; omega) (by exact (K3.out.1.out (o + 3) (.inr (by omega))).trans hz3)).mono ?_
  rintro e w4 ⟨rfl, st4, cs4, hR4, tk4, F4, one4, T4, S4⟩
  have H4 := Lib.hid (H3.out.next hR4 tk4 one4 T4)
  have K4 := Lib.hid (And.intro (K3.out.1.trans F4 (by omega) (by omega) (by omega) (by omega) : Fr cs cs4 o 4) (And.intro F4 (And.intro T4 S4)))
  clear hR4 tk4 F4 one4 T4 S4
  go_wp2_with fail
  refine (numI_rd H4.out (o + 4) (by rw [K4.out.1.size]; omega)).mono ?_
  rintro e w5 ⟨rfl, st5, cs5, hR5, tk5, F5, one5, T5, S5⟩
  have H5 := Lib.hid (H4.out.next hR5 tk5 one5 T5)
  have K5 := Lib.hid (And.intro (K4.out.1.trans F5 (by omega) (by omega) (by omega) (by omega) : Fr cs cs5 o 5) (And.intro F5 (And.intro T5 S5)))
  clear hR5 tk5 F5 one5 T5 S5
  go_wp2_with fail
  refine (bh_rd H5.out (o + 5) (by rw [K5.out.1.size]; omega) (by rw [show (o + 5) + 2 = o + 7 from by omega]; exact (K5.out.1.out (o + 7) (.inr (by omega))).trans hz7)).mono ?_
  rintro e w6 ⟨rfl, st6, cs6, hR6, tk6, F6, one6, T6, S6⟩
  have H6 := Lib.hid (H5.out.next hR6 tk6 one6 T6)
  have K6 := Lib.hid (And.intro (K5.out.1.trans F6 (by omega) (by omega) (by omega) (by omega) : Fr cs cs6 o 8) (And.intro F6 (And.intro T6 S6)))
  clear hR6 tk6 F6 one6 T6 S6
  go_wp2_with fail
  refine (bh_rd H6.out (o + 8) (by rw [K6.out.1.size]; omega) (by rw [show (o + 8) + 2 = o + 10 from by omega]; exact (K6.out.1.out (o + 10) (.inr (by omega))).trans hz10)).mono ?_
  rintro e w7 ⟨rfl, st7, cs7, hR7, tk7, F7, one7, T7, S7⟩
  have H7 := Lib.hid (H6.out.next hR7 tk7 one7 T7)
  have K7 := Lib.hid (And.intro (K6.out.1.trans F7 (by omega) (by omega) (by omega) (by omega) : Fr cs cs7 o 11) (And.intro F7 (And.intro T7 S7)))
  clear hR7 tk7 F7 one7 T7 S7
  go_wp2_with fail
  refine (rowDone_rd H7.out (o + 11) (by rw [K7.out.1.size]; omega) (by exact (K7.out.1.out (o + 11) (.inr (by omega))).trans hz11)).mono ?_
  rintro e w8 ⟨rfl, st8, cs8, hR8, tk8, F8, one8, T8, S8⟩
  have H8 := Lib.hid (H7.out.next hR8 tk8 one8 T8)
  have K8 := Lib.hid (And.intro (K7.out.1.trans F8 (by omega) (by omega) (by omega) (by omega) : Fr cs cs8 o 12) (And.intro F8 (And.intro T8 S8)))
  clear hR8 tk8 F8 one8 T8 S8
  have HF := Lib.hid (show RPost p r t ty o 12 st cs w dHp (fun w' cs' x => cs'[o]? = some (.string x.1) ∧ cs'[o + 1]? = some (.int .i64 x.2.1) ∧ cs'[o + 2]? = some (.int .i64 x.2.2.1) ∧ RowAt w.heap.size 81 3 Mem.Met.cells w' cs' (o + 3) x.2.2.2.1 ∧ cs'[o + 4]? = some (.int .i64 x.2.2.2.2.1) ∧ (cs'[o + 5]? = some (.int .i64 x.2.2.2.2.2.1.1) ∧ cs'[o + 6]? = some (.int .i64 x.2.2.2.2.2.1.2.1) ∧ RowAt w.heap.size 110 3 Pol.cells w' cs' (o + 7) x.2.2.2.2.2.1.2.2) ∧ (cs'[o + 8]? = some (.int .i64 x.2.2.2.2.2.2.1.1) ∧ cs'[o + 9]? = some (.int .i64 x.2.2.2.2.2.2.1.2.1) ∧ RowAt w.heap.size 110 3 Pol.cells w' cs' (o + 10) x.2.2.2.2.2.2.1.2.2) ∧ RowAt w.heap.size 91 3 Done.cells w' cs' (o + 11) x.2.2.2.2.2.2.2) (.returned (.tuple #[])) w8 from by
    have FF7 := K8.out.2.1
    have TT7 := K8.out.2.2.1
    have FF6 : Fr cs6 cs8 (o + 8) 4 := K7.out.2.1.trans FF7 (by omega) (by omega) (by omega) (by omega)
    have TT6 := K7.out.2.2.1.trans TT7 (.inl rfl)
    have FF5 : Fr cs5 cs8 (o + 5) 7 := K6.out.2.1.trans FF6 (by omega) (by omega) (by omega) (by omega)
    have TT5 := K6.out.2.2.1.trans TT6 (.inl rfl)
    have FF4 : Fr cs4 cs8 (o + 4) 8 := K5.out.2.1.trans FF5 (by omega) (by omega) (by omega) (by omega)
    have TT4 := K5.out.2.2.1.trans TT5 (.inl rfl)
    have FF3 : Fr cs3 cs8 (o + 3) 9 := K4.out.2.1.trans FF4 (by omega) (by omega) (by omega) (by omega)
    have TT3 := K4.out.2.2.1.trans TT4 (.inl rfl)
    have FF2 : Fr cs2 cs8 (o + 2) 10 := K3.out.2.1.trans FF3 (by omega) (by omega) (by omega) (by omega)
    have TT2 := K3.out.2.2.1.trans TT3 (.inl rfl)
    have FF1 : Fr cs1 cs8 (o + 1) 11 := K2.out.2.1.trans FF2 (by omega) (by omega) (by omega) (by omega)
    have TT1 := K2.out.2.2.1.trans TT2 (.inl rfl)
    have FF0 : Fr cs cs8 (o) 12 := K1.out.2.1.trans FF1 (by omega) (by omega) (by omega) (by omega)
    have TT0 := K1.out.2.2.1.trans TT1 (.inl rfl)
    have Z0 : w.heap.size ≤ w.heap.size := Nat.le_refl _
    have Z1 : w.heap.size ≤ w1.heap.size := Nat.le_trans Z0 K1.out.2.2.1.size
    have Z2 : w.heap.size ≤ w2.heap.size := Nat.le_trans Z1 K2.out.2.2.1.size
    have Z3 : w.heap.size ≤ w3.heap.size := Nat.le_trans Z2 K3.out.2.2.1.size
    have Z4 : w.heap.size ≤ w4.heap.size := Nat.le_trans Z3 K4.out.2.2.1.size
    have Z5 : w.heap.size ≤ w5.heap.size := Nat.le_trans Z4 K5.out.2.2.1.size
    have Z6 : w.heap.size ≤ w6.heap.size := Nat.le_trans Z5 K6.out.2.2.1.size
    have Z7 : w.heap.size ≤ w7.heap.size := Nat.le_trans Z6 K7.out.2.2.1.size
    exact ⟨rfl, st8, cs8, H8.out.rs, H8.out.tk, FF0, H8.out.one, TT0, (((K1.out.2.2.2.mono (Y := fun x => cs8[o]? = some (.string x)) (fun x hx => (FF1.out (o) (.inl (by omega))).trans hx)).pair ((K2.out.2.2.2.mono (Y := fun x => cs8[o + 1]? = some (.int .i64 x)) (fun x hx => (FF2.out (o + 1) (.inl (by omega))).trans hx)).pair ((K3.out.2.2.2.mono (Y := fun x => cs8[o + 2]? = some (.int .i64 x)) (fun x hx => (FF3.out (o + 2) (.inl (by omega))).trans hx)).pair ((K4.out.2.2.2.mono (Y := fun x => RowAt w.heap.size 81 3 Mem.Met.cells w8 cs8 (o + 3) x) (fun x hx => RowAt.move (p := p) (t := t) hx Z3 TT4 hp0 ht0 (FF4.out (o + 3) (.inl (by omega))))).pair ((K5.out.2.2.2.mono (Y := fun x => cs8[o + 4]? = some (.int .i64 x)) (fun x hx => (FF5.out (o + 4) (.inl (by omega))).trans hx)).pair ((K6.out.2.2.2.mono (Y := fun x => (cs8[o + 5]? = some (.int .i64 x.1) ∧ cs8[o + 6]? = some (.int .i64 x.2.1) ∧ RowAt w.heap.size 110 3 Pol.cells w8 cs8 (o + 7) x.2.2)) (fun x hx => ⟨(FF6.out (o + 5) (.inl (by omega))).trans hx.1, (FF6.out (o + 6) (.inl (by omega))).trans hx.2.1, RowAt.move (p := p) (t := t) hx.2.2 Z5 TT6 hp0 ht0 (FF6.out (o + 7) (.inl (by omega)))⟩)).pair ((K7.out.2.2.2.mono (Y := fun x => (cs8[o + 8]? = some (.int .i64 x.1) ∧ cs8[o + 9]? = some (.int .i64 x.2.1) ∧ RowAt w.heap.size 110 3 Pol.cells w8 cs8 (o + 10) x.2.2)) (fun x hx => ⟨(FF7.out (o + 8) (.inl (by omega))).trans hx.1, (FF7.out (o + 9) (.inl (by omega))).trans hx.2.1, RowAt.move (p := p) (t := t) hx.2.2 Z6 TT7 hp0 ht0 (FF7.out (o + 10) (.inl (by omega)))⟩)).pair (K8.out.2.2.2.mono (Y := fun x => RowAt w.heap.size 91 3 Done.cells w8 cs8 (o + 11) x) (fun x hx => RowAt.move (p := p) (t := t) hx Z7 (PTouch.refl _ _ _) hp0 ht0 rfl)))))))))).mono (fun x hx => by first | exact hx | simpa [and_assoc] using hx)⟩)
  go_wp2_with fail
  exact bodyPost_end (results_none rfl _ _ _) rfl HF.out
end Go.Proofs.Ythdjfcfbmmmmcaa
