/-
  trimtablaw06: its own example; what steps write; OctetWrites' first loop.
-/
import Derived.Test.YthdjfcfbmmmmcaaOct5
import Derived.Deep.DeepCutAuto
import Derived.Deep.RegionHeld3
namespace Go.Proofs.Ythdjfcfbmmmmcaa
open Go.RowKit Go.Proofs.Mem
set_option linter.unusedVariables false
set_option linter.unusedSimpArgs false
theorem wt_new (w : World) : WtO (w.alloc (.cells #[.slice none 0 0] 57)) w.heap.size none [] :=
  ⟨⟨.slice none 0 0, Bk.new w _ _, rfl, World.ownsRow_nil ..⟩, by simp⟩
theorem done_below {w w' : World} {p : Nat} {r : Option Nat} {bs : List UInt8} {B : Nat} {W : World} (h : WDone w w' p r bs) (hB : Below B W w) (hp : B ≤ p) (hr : ∀ k, r = some k → B ≤ k) (hs : B ≤ w.heap.size) : ∃ r', WtO w' p r' bs ∧ (∀ k, r' = some k → B ≤ k) ∧ Below B W w' ∧ B ≤ w'.heap.size := by
  obtain ⟨r', h1, h2, h3⟩ := h
  refine ⟨r', h1, fun k e => ?_, h3.below _ _ hB hp hr hs, Nat.le_trans hs h3.size⟩
  rcases h2 with rfl | ⟨g, rfl, hg⟩
  · exact hr k e
  · injection e with e
    omega
theorem lives06_any (w : World) : Calls Try.prog 5 #[] w fun e w' => e = .returned (.bool true) ∧ Below w.heap.size w w' := by
  have CP := Lib.hid (wput_ok 258 2 (by omega) (.inr (.inl rfl)) _ (wt_new w) (by simp))
  go_enter Try.func5, Try.ntmps5
  go_wp2_with fail
  refine CP.out.mono ?_
  rintro e w1 ⟨rfl, hW⟩
  obtain ⟨r1, hW1, hr1, hB1, hs1⟩ := done_below hW ((Below.refl w.heap.size w).alloc (Nat.le_refl _) _) (Nat.le_refl _) (by simp) (by simp)
  have CB := Lib.hid (wbytes_any w1 hW1 (by simp [putL_len]))
  clear hW hW1 hr1
  go_wp2_with fail
  refine CB.out.mono ?_
  rintro e w2 ⟨v, rfl, ho, hb⟩
  have hcv := conv_bytes _ _ rfl v w2 (Sl.of_own ho)
  have hval : ([] ++ putL 258 2 : List UInt8) = [2, 1] := by decide
  rw [hval] at hcv
  have hB2 := hB1.trans (hb.mono hs1)
  clear hb ho hval CB
  go_wp2_with fail
  go_ret
  exact ⟨rfl, hB2⟩
/-- A step: its kind, its width, its number, its text. -/
abbrev St := Int × Int × Nat × ByteArray
def stcells (x : St) : List Value := [.int .i64 x.1, .int .i64 x.2.1, .int .u64 x.2.2.1, .string x.2.2.2]
instance (n : Int) : Decidable (wholeP n) := by unfold wholeP; exact inferInstance
def stB (x : St) : List UInt8 := if x.1 = 0 then (if wholeP x.2.1 then putL x.2.2.1 x.2.1.toNat else []) else if x.1 = 1 then putL x.2.2.1 8 else putL (min x.2.2.2.size 255) 1 ++ x.2.2.2.data.toList.take 255
def stsB (l : List St) : List UInt8 := l.flatMap stB
theorem stB_len (x : St) : (stB x).length ≤ 256 := by
  unfold stB
  split
  · split
    · rename_i h
      rw [putL_len]
      rcases h with h | h | h | h <;> omega
    · simp
  · split
    · rw [putL_len]; omega
    · rw [List.length_append, putL_len, List.length_take]
      omega
theorem stsB_len (l : List St) : (stsB l).length ≤ l.length * 256 := by
  unfold stsB
  induction l with
  | nil => simp
  | cons a l ih =>
    have := stB_len a
    rw [List.flatMap_cons, List.length_append, List.length_cons]
    omega
theorem stsB_succ (l : List St) (i : Nat) (x : St) (h : l[i]? = some x) : stsB (l.take (i + 1)) = stsB (l.take i) ++ stB x := by
  rw [List.take_add_one, h]
  simp [stsB]
theorem done_bk {w w' : World} {p g : Nat} {r : Option Nat} {bs : List UInt8} {t : TypeId} {cs : Array Value} (h : WDone w w' p r bs) (hk : Bk w g t cs) (h1 : g ≠ p) (h2 : some g ≠ r) : Bk w' g t cs := by
  obtain ⟨r', _, _, h3⟩ := h
  exact h3.bk hk h1 h2
theorem done_size {w w' : World} {p : Nat} {r : Option Nat} {bs : List UInt8} (h : WDone w w' p r bs) : w.heap.size ≤ w'.heap.size := by
  obtain ⟨r', _, _, h3⟩ := h
  exact h3.size
theorem u64_back (x : Nat) (hx : x ≤ 18446744073709551615) : u64 (wrap64 (x : Int)) = x := by
  unfold u64
  have : wrap64 (x : Int) = (x : Int) ∨ wrap64 (x : Int) = (x : Int) - 18446744073709551616 := by
    simp only [wrap64]
    omega
  omega
theorem wfi_wrap (x : Int) : wfi .i64 (wrap64 x) := by
  simp only [wfi, wrap64, Lit.wf, IntKind.min, IntKind.max, IntKind.signed, IntKind.bits]
  simp
  omega
theorem data_app (s t : ByteArray) : (s ++ t).data.toList = s.data.toList ++ t.data.toList := by rw [ByteArray.data_append, Array.toList_append]
theorem putB_list (x n : Nat) : (putB x n).data.toList = putL x n := rfl
theorem leV_putL (x : Nat) : ∀ m, leV (putL x m) = x % 256 ^ m
  | 0 => by simp [leV, putL, Nat.mod_one]
  | m + 1 => by
    have h := leV_putL x m
    have e : leV (putL x (m + 1)) = leV (putL x m) + (x / 256 ^ m % 256) * 256 ^ m := by
      unfold leV at *
      rw [putL, List.foldr_append]
      have hg : ∀ (l : List UInt8) (z : Nat), l.foldr (fun b x => x * 256 + b.toNat) z = l.foldr (fun b x => x * 256 + b.toNat) 0 + z * 256 ^ l.length := by
        intro l
        induction l with
        | nil => intro z; simp
        | cons b l ih =>
          intro z
          rw [List.foldr_cons, List.foldr_cons, ih z, List.length_cons, Nat.pow_succ, Nat.add_mul, Nat.mul_assoc]
          omega
      rw [hg (putL x m), putL_len]
      simp
    rw [e, h, Nat.pow_succ, Nat.mod_mul, Nat.mul_comm]
theorem take_put (x m : Nat) (rest : List UInt8) : (putL x m ++ rest).take m = putL x m := by
  have := List.take_left (l₁ := putL x m) (l₂ := rest)
  rwa [putL_len] at this
theorem drop_put (x m : Nat) (rest : List UInt8) : (putL x m ++ rest).drop m = rest := by
  have := List.drop_left (l₁ := putL x m) (l₂ := rest)
  rwa [putL_len] at this
theorem stsB_drop (l : List St) (i : Nat) (x : St) (h : l[i]? = some x) : stsB (l.drop i) = stB x ++ stsB (l.drop (i + 1)) := by
  have hi := (List.getElem?_eq_some_iff.1 h).1
  rw [List.drop_eq_getElem_cons hi, show l[i] = x from by simpa [List.getElem?_eq_getElem hi] using h]
  rfl
/-- A number is read again. -/
theorem get_put (x m : Nat) (hm : wholeP m) {p : Nat} {r : Option Nat} {rest : List UInt8} (w : World) (h : RdO w p r (putL x m ++ rest) false) (hb : (putL x m ++ rest).length ≤ 1000000000) :
    Calls Try.prog 11 #[.pointer (some ⟨p, 0, none⟩), .int .i64 m] w fun e w' => e = .returned (.int .u64 (x % 256 ^ m : Nat)) ∧ RDone w w' p r rest false := by
  have := get_ok m hm w h hb (by rw [List.length_append, putL_len]; omega)
  rwa [take_put, drop_put, leV_putL] at this
theorem RDone.below {w a b : World} {p : Nat} {r : Option Nat} {bs : List UInt8} {bad : Bool} (h : RDone w a p r bs bad) (k : Below a.heap.size a b) : RDone w b p r bs bad := ⟨h.1.below k, h.2.trans (.of_below k) (.inl rfl)⟩
theorem rdone_at {w a : World} {p : Nat} {r : Option Nat} {bs : List UInt8} {bad : Bool} {B : Nat} {W : World} (h : RDone w a p r bs bad) (hB : Below B W w) (hp : B ≤ p) (hs : B ≤ w.heap.size) : RdO a p r bs bad ∧ Below B W a ∧ B ≤ a.heap.size := ⟨h.1, h.2.below _ _ hB hp (by simp) hs, Nat.le_trans hs h.2.size⟩
theorem text_put (t : ByteArray) (ht : t.size ≤ 255) {p : Nat} {r : Option Nat} {rest : List UInt8} (w : World) (h : RdO w p r (putL t.size 1 ++ t.data.toList ++ rest) false) (hb : (putL t.size 1 ++ t.data.toList ++ rest).length ≤ 1000000000) :
    Calls Try.prog 21 #[.pointer (some ⟨p, 0, none⟩)] w fun e w' => e = .returned (.string t) ∧ RDone w w' p r rest false := by
  have e1 : putL t.size 1 ++ t.data.toList ++ rest = UInt8.ofNat t.size :: (t.data.toList ++ rest) := by
    simp only [putL, Nat.pow_zero, Nat.div_one, List.nil_append, List.append_assoc, List.singleton_append]
    rw [Nat.mod_eq_of_lt (by omega)]
    rfl
  rw [e1] at h hb
  have e2 : (UInt8.ofNat t.size).toNat = t.size := by simp; omega
  have e3 : t.data.toList.length = t.size := rfl
  have e4 : (t.data.toList ++ rest).take t.size = t.data.toList := by
    have := List.take_left (l₁ := t.data.toList) (l₂ := rest)
    rwa [e3] at this
  have e5 : (t.data.toList ++ rest).drop t.size = rest := by
    have := List.drop_left (l₁ := t.data.toList) (l₂ := rest)
    rwa [e3] at this
  have C := rtext_ok w h hb (by rw [e2, List.length_append, e3]; omega)
  rw [e2, e4, e5] at C
  exact C
theorem int_put (x : Nat) (hx : x ≤ 18446744073709551615) {p : Nat} {r : Option Nat} {rest : List UInt8} (w : World) (h : RdO w p r (putL x 8 ++ rest) false) (hb : (putL x 8 ++ rest).length ≤ 1000000000) :
    Calls Try.prog 57 #[.pointer (some ⟨p, 0, none⟩)] w fun e w' => e = .returned (.int .i64 (wrap64 (x : Int))) ∧ RDone w w' p r rest false := by
  have C := rint_ok w h hb (by rw [List.length_append, putL_len]; omega)
  rwa [take_put, drop_put, leV_putL, Nat.mod_eq_of_lt (by omega)] at C
end Go.Proofs.Ythdjfcfbmmmmcaa
