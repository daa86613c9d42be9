/-
  The walks of package octet's reader: numbers, whole numbers, texts.
-/
import Derived.Test.YthdjfcfbmmmmcaaOct4
namespace Go.Proofs.Ythdjfcfbmmmmcaa
open Go.RowKit Go.Proofs.Mem
set_option linter.unusedVariables false
set_option linter.unusedSimpArgs false
theorem touch_new {p b : Nat} {r : Option Nat} {w a c : World} (h : PTouch p r w a) (k : PTouch b none a c) (hb : w.heap.size ≤ b) : PTouch p r w c :=
  ⟨Nat.le_trans h.size k.size, fun g hg h1 h2 => (k.heap g (Nat.lt_of_lt_of_le hg h.size) (by omega) (by simp)).trans (h.heap g hg h1 h2), fun B W hB h1 h2 h3 => k.below B W (h.below B W hB h1 h2 h3) (by omega) (by simp) (Nat.le_trans h3 h.size)⟩
theorem rd_new {p b : Nat} {r : Option Nat} {bs : List UInt8} {bad : Bool} {a c : World} (h : RdO a p r bs bad) (k : PTouch b none a c) (hp : p ≠ b) (hr : ∀ k, r = some k → k ≠ b) : RdO c p r bs bad :=
  h.keep k.size (k.heap p h.lt hp (by simp)) fun g e => k.heap g (h.rlt g e) (hr g e) (by simp)
/-- What a call of a reader's leaves. -/
def RDone (w w' : World) (p : Nat) (r : Option Nat) (bs : List UInt8) (bad : Bool) : Prop := RdO w' p r bs bad ∧ PTouch p none w w'
theorem RDone.trans {a b c : World} {p : Nat} {r : Option Nat} {bs bs' : List UInt8} {bad bad' : Bool} (h : RDone a b p r bs bad) (k : RDone b c p r bs' bad') : RDone a c p r bs' bad' := ⟨k.1, h.2.trans k.2 (.inl rfl)⟩
theorem RDone.new {w a c : World} {p : Nat} {r : Option Nat} {bs : List UInt8} {bad : Bool} (h : RDone w a p r bs bad) (hp : p < w.heap.size) (hr : ∀ k, r = some k → k < w.heap.size) (k : PTouch w.heap.size none a c) : RDone w c p r bs bad :=
  ⟨rd_new h.1 k (by omega) fun g e => by have := hr g e; omega, touch_new h.2 k (Nat.le_refl _)⟩
theorem get_ok (n : Nat) (hn : wholeP n) {p : Nat} {r : Option Nat} {bs : List UInt8} (w : World) (h : RdO w p r bs false) (hb : bs.length ≤ 1000000000) (hl : n ≤ bs.length) :
    Calls Try.prog 11 #[.pointer (some ⟨p, 0, none⟩), .int .i64 n] w fun e w' => e = .returned (.int .u64 (leV (bs.take n))) ∧ RDone w w' p r (bs.drop n) false := by
  have h8 : n ≤ 8 := by rcases hn with hn | hn | hn | hn <;> omega
  have hlen : (bs.take n).length = n := by rw [List.length_take]; omega
  refine get_gen n hn _ ⟨_, rfl⟩ (bs.take n) (by omega) w (fun w' => RDone w w' p r (bs.drop n) false) (fun w1 hb1 => ?_) (fun a b hT hs hP => hT.new h.lt h.rlt hP)
  refine (take_ok n w1 (h.below hb1) hb hl).mono fun e w' ⟨A, c, he, hS, hA, hR, hP⟩ => ⟨A, c, by rw [hlen]; exact he, by rw [hlen]; exact hS, fun ad ea => h.rlt _ (by rw [← hA, ea]; rfl), hP.size, fun g hg hg1 => hP.heap g hg1 (by have := h.lt; omega) (by simp), hR, (PTouch.of_below hb1).trans hP (.inl rfl)⟩
theorem get_bad (n : Int) {p : Nat} {r : Option Nat} {bs : List UInt8} {bad : Bool} (w : World) (h : RdO w p r bs bad) (hb : bs.length ≤ 1000000000) (hn : ¬ wholeP n ∨ bad = true ∨ (bs.length : Int) < n) :
    Calls Try.prog 11 #[.pointer (some ⟨p, 0, none⟩), .int .i64 n] w fun e w' => e = .returned (.int .u64 0) ∧ RDone w w' p r bs true := by
  by_cases hw : wholeP n
  · have hn2 : bad = true ∨ (bs.length : Int) < n := hn.resolve_left (fun h => h hw)
    refine get_gen n hw _ ⟨_, rfl⟩ [] (by simp) w (fun w' => RDone w w' p r bs true) (fun w1 hb1 => ?_) (fun a b hT hs hP => hT.new h.lt h.rlt hP)
    exact (take_bad n w1 (h.below hb1) hb hn2).mono fun e w' ⟨he, hR, hP⟩ => ⟨none, 0, he, Sl.nil _ _, (fun ad e => by cases e), hP.size, fun g hg hg1 => hP.heap g hg1 (by have := h.lt; omega) (by simp), hR, (PTouch.of_below hb1).trans hP (.inl rfl)⟩
  · have C := Lib.hid (whole_f n hw w)
    have hT := (PTouch.refl p none w).setCell (a := ⟨p, 1, none⟩) rfl (.bool true)
    obtain ⟨A, c, hk, hS, hAr, hrp, hrl⟩ := h
    have f1 := hk.frozen 1
    have c1 := hk.cell 1
    have hAne : ∀ ad, A = some ad → ad.block ≠ p := fun ad e => by
      subst e
      intro e2
      rw [← hAr] at hrp
      exact hrp (by simp [e2])
    have hfin : RDone w (w.setCell ⟨p, 1, none⟩ (.bool true)) p r bs true :=
      ⟨⟨A, c, by simpa using hk.set 1 (.bool true), hS.far hT.size fun ad e => Below.heap_setCell w ⟨p, 1, none⟩ _ ad.block (hAne ad e), hAr, hrp, fun k e => Nat.lt_of_lt_of_le (hrl k e) hT.size⟩, hT⟩
    have HF := Lib.hid hfin
    clear hfin hT hS hAr hrp hrl hAne hk hn hw
    go_enter Try.func11, Try.ntmps11
    go_wp2_with fail
    refine C.out.mono ?_
    rintro e w1 ⟨rfl, rfl⟩
    go_wp2_with fail
    go_ret
    exact ⟨rfl, HF.out⟩
theorem get_nil (n : Int) (w : World) :
    Calls Try.prog 11 #[.pointer none, .int .i64 n] w fun e w' => e = .returned (.int .u64 0) ∧ Below w.heap.size w w' := by
  by_cases hw : wholeP n
  · refine get_gen n hw _ ⟨_, rfl⟩ [] (by simp) w (fun w' => Below w.heap.size w w') (fun w1 hb1 => ?_) (fun a b hT hs hP => hP.below _ _ hT (Nat.le_refl _) (by simp) hs)
    exact (take_nil n w1).mono fun e w' ⟨he, hR⟩ => by
      subst hR
      exact ⟨none, 0, he, Sl.nil _ _, (fun ad e => by cases e), Nat.le_refl _, fun _ _ _ => rfl, hb1⟩
  · have C := Lib.hid (whole_f n hw w)
    clear hw
    go_enter Try.func11, Try.ntmps11
    go_wp2_with fail
    refine C.out.mono ?_
    rintro e w1 ⟨rfl, rfl⟩
    go_wp2_with fail
    go_ret
    exact ⟨rfl, Below.refl _ _⟩
theorem rint_ok {p : Nat} {r : Option Nat} {bs : List UInt8} (w : World) (h : RdO w p r bs false) (hb : bs.length ≤ 1000000000) (hl : 8 ≤ bs.length) :
    Calls Try.prog 57 #[.pointer (some ⟨p, 0, none⟩)] w fun e w' => e = .returned (.int .i64 (wrap64 (leV (bs.take 8) : Nat))) ∧ RDone w w' p r (bs.drop 8) false := by
  have C := Lib.hid (get_ok 8 (.inr (.inr (.inr rfl))) w h hb hl)
  clear hb hl h
  go_enter Try.func57, Try.ntmps57
  go_wp2_with fail
  refine C.out.mono ?_
  rintro e w1 ⟨rfl, hR⟩
  go_wp2_with fail
  go_ret
  exact ⟨rfl, hR⟩
theorem rint_bad {p : Nat} {r : Option Nat} {bs : List UInt8} {bad : Bool} (w : World) (h : RdO w p r bs bad) (hb : bs.length ≤ 1000000000) (hl : bad = true ∨ bs.length < 8) :
    Calls Try.prog 57 #[.pointer (some ⟨p, 0, none⟩)] w fun e w' => e = .returned (.int .i64 0) ∧ RDone w w' p r bs true := by
  have C := Lib.hid (get_bad 8 w h hb (.inr (hl.imp id fun h => by omega)))
  clear hb hl h
  go_enter Try.func57, Try.ntmps57
  go_wp2_with fail
  refine C.out.mono ?_
  rintro e w1 ⟨rfl, hR⟩
  go_wp2_with fail
  go_ret
  exact ⟨rfl, hR⟩
theorem rint_nil (w : World) :
    Calls Try.prog 57 #[.pointer none] w fun e w' => e = .returned (.int .i64 0) ∧ Below w.heap.size w w' := by
  have C := Lib.hid (get_nil 8 w)
  go_enter Try.func57, Try.ntmps57
  go_wp2_with fail
  refine C.out.mono ?_
  rintro e w1 ⟨rfl, hR⟩
  go_wp2_with fail
  go_ret
  exact ⟨rfl, hR⟩
theorem conv_bytes (bs : List UInt8) (n : Nat) (hn : bs.length = n) (v : Value) (w : World) (h : Sl w 1 v n (bs.map bv)) : (convert 22 9 v).run Try.prog w = .ok (.string ⟨bs.toArray⟩) w := by
  subst hn
  obtain ⟨A, c, rfl, hc, hA, hl, hx⟩ := h
  cases A with
  | none =>
    have h0 : bs.length = 0 := by have := hA rfl; omega
    obtain rfl : bs = [] := List.eq_nil_of_length_eq_zero h0
    rw [run_convert_bytes_string w _ _ _ none _ c Try.underlying22 Try.underlying5 Try.underlying9]
    rfl
  | some ad =>
    refine run_convert_bytes_back w _ _ _ ad c bs Try.underlying22 Try.underlying5 Try.underlying9 fun j hj => ?_
    obtain ⟨ad', e, hb, hcell⟩ := hx (by omega)
    injection e with e
    subst e
    exact hcell j _ (by rw [List.getElem?_map, List.getElem?_eq_getElem hj]; rfl)
theorem leV_one (b : UInt8) : leV [b] = b.toNat := by simp [leV]
theorem rtext_ok {p : Nat} {r : Option Nat} {b : UInt8} {bs : List UInt8} (w : World) (h : RdO w p r (b :: bs) false) (hb : (b :: bs).length ≤ 1000000000) (hl : b.toNat ≤ bs.length) :
    Calls Try.prog 21 #[.pointer (some ⟨p, 0, none⟩)] w fun e w' => e = .returned (.string ⟨(bs.take b.toNat).toArray⟩) ∧ RDone w w' p r (bs.drop b.toNat) false := by
  have C := get_ok 1 (.inl rfl) w h hb (by simp)
  rw [show (b :: bs).take 1 = [b] from rfl, leV_one, show (b :: bs).drop 1 = bs from rfl] at C
  have HC := Lib.hid C
  have hb2 : bs.length ≤ 1000000000 := by simp at hb; omega
  have C2 := Lib.hid (fun (w1 : World) (hR : RdO w1 p r bs false) => take_ok b.toNat w1 hR hb2 hl)
  have hb8 := b.toNat_lt
  have hlen : (bs.take b.toNat).length = b.toNat := by rw [List.length_take]; omega
  have CV := Lib.hid (fun v w1 hS => conv_bytes (bs.take b.toNat) b.toNat hlen v w1 hS)
  generalize b.toNat = k at *
  clear C hb hb2 hl h hlen
  go_enter Try.func21, Try.ntmps21
  go_wp2_with fail
  refine HC.out.mono ?_
  rintro e w1 ⟨rfl, hR⟩
  go_wp2_with fail
  refine (C2.out _ hR.1).mono ?_
  rintro e w2 ⟨A, c, rfl, hS, hA, hR2, hP⟩
  have hcv := CV.out _ w2 hS
  have hfin : RDone w w2 p r (bs.drop k) false := hR.trans ⟨hR2, hP⟩
  have HF := Lib.hid hfin
  clear hfin hS hA hR2 hP hR
  go_wp2_with fail
  go_ret
  exact ⟨rfl, HF.out⟩
theorem rtext_none {p : Nat} {r : Option Nat} {bs bs1 : List UInt8} {bad bad1 : Bool} (k : Nat) (hk : k < 256) (w : World)
    (C : Calls Try.prog 11 #[.pointer (some ⟨p, 0, none⟩), .int .i64 1] w fun e w' => e = .returned (.int .u64 k) ∧ RDone w w' p r bs1 bad1)
    (hb : bs1.length ≤ 1000000000) (hl : bad1 = true ∨ (bs1.length : Int) < (k : Int)) :
    Calls Try.prog 21 #[.pointer (some ⟨p, 0, none⟩)] w fun e w' => e = .returned (.string ⟨#[]⟩) ∧ RDone w w' p r bs1 true := by
  have HC := Lib.hid C
  have C2 := Lib.hid (fun (w1 : World) (hR : RdO w1 p r bs1 bad1) => take_bad k w1 hR hb hl)
  have CV := Lib.hid (fun w1 => conv_bytes [] 0 rfl (.slice none 0 0) w1 (Sl.nil _ _))
  clear C hb hl
  go_enter Try.func21, Try.ntmps21
  go_wp2_with fail
  refine HC.out.mono ?_
  rintro e w1 ⟨rfl, hR⟩
  go_wp2_with fail
  refine (C2.out _ hR.1).mono ?_
  rintro e w2 ⟨rfl, hR2, hP⟩
  have hcv := CV.out w2
  have hfin : RDone w w2 p r bs1 true := hR.trans ⟨hR2, hP⟩
  have HF := Lib.hid hfin
  clear hfin hR2 hP hR
  go_wp2_with fail
  go_ret
  exact ⟨rfl, HF.out⟩
theorem rtext_bad {p : Nat} {r : Option Nat} {bs : List UInt8} {bad : Bool} (w : World) (h : RdO w p r bs bad) (hb : bs.length ≤ 1000000000) (hl : bad = true ∨ bs = []) :
    Calls Try.prog 21 #[.pointer (some ⟨p, 0, none⟩)] w fun e w' => e = .returned (.string ⟨#[]⟩) ∧ RDone w w' p r bs true :=
  rtext_none (bs := bs) (bad := bad) 0 (by omega) w (get_bad 1 w h hb (.inr (hl.imp id fun e => by subst e; simp))) hb (.inl rfl)
theorem rtext_short {p : Nat} {r : Option Nat} {b : UInt8} {bs : List UInt8} (w : World) (h : RdO w p r (b :: bs) false) (hb : (b :: bs).length ≤ 1000000000) (hl : bs.length < b.toNat) :
    Calls Try.prog 21 #[.pointer (some ⟨p, 0, none⟩)] w fun e w' => e = .returned (.string ⟨#[]⟩) ∧ RDone w w' p r bs true := by
  have C := get_ok 1 (.inl rfl) w h hb (by simp)
  rw [show (b :: bs).take 1 = [b] from rfl, leV_one, show (b :: bs).drop 1 = bs from rfl] at C
  exact rtext_none (bs := bs) (bad := false) b.toNat b.toNat_lt w C (by simp at hb; omega) (.inr (by omega))
theorem rtext_nil (w : World) :
    Calls Try.prog 21 #[.pointer none] w fun e w' => e = .returned (.string ⟨#[]⟩) ∧ Below w.heap.size w w' := by
  have C := Lib.hid (get_nil 1 w)
  have C2 := Lib.hid (fun (w1 : World) => take_nil 0 w1)
  have CV := Lib.hid (fun w1 => conv_bytes [] 0 rfl (.slice none 0 0) w1 (Sl.nil _ _))
  go_enter Try.func21, Try.ntmps21
  go_wp2_with fail
  refine C.out.mono ?_
  rintro e w1 ⟨rfl, hR⟩
  go_wp2_with fail
  refine (C2.out _).mono ?_
  rintro e w2 ⟨rfl, rfl⟩
  have hcv := CV.out w1
  go_wp2_with fail
  go_ret
  exact ⟨rfl, hR⟩
end Go.Proofs.Ythdjfcfbmmmmcaa
