/-
  The walks of package octet's writer: numbers and texts.
-/
import Derived.Test.YthdjfcfbmmmmcaaRef6
import Derived.Test.YthdjfcfbmmmmcaaOct
import Derived.Test.YthdjfcfbmmmmcaaQuiet
namespace Go.Proofs.Ythdjfcfbmmmmcaa
open Go.RowKit Go.Proofs.Mem
set_option linter.unusedVariables false
set_option linter.unusedSimpArgs false
abbrev WtO := Wt 57 5
theorem info_u8 : (Try.prog.info? 5).map (fun i => (i.zero, i.size, i.bytes)) = some (some (.int .u8 0), 1, 1) := by kernel_rfl
def wholeP (n : Int) : Prop := n = 1 ∨ n = 2 ∨ n = 4 ∨ n = 8
set_option maxRecDepth 100000 in
theorem whole_t (n : Int) (h : wholeP n) (w : World) : Calls Try.prog 23 #[.int .i64 n] w fun e w' => e = .returned (.bool true) ∧ w = w' := by
  rcases h with rfl | rfl | rfl | rfl
  all_goals
    go_enter Try.func23, Try.ntmps23
    go_wp2_with fail
    go_ret
    exact ⟨rfl, rfl⟩
set_option maxRecDepth 100000 in
theorem whole_f (n : Int) (h : ¬ wholeP n) (w : World) : Calls Try.prog 23 #[.int .i64 n] w fun e w' => e = .returned (.bool false) ∧ w = w' := by
  have h1 : (n == 1) = false := by simp; exact fun e => h (.inl e)
  have h2 : (n == 2) = false := by simp; exact fun e => h (.inr (.inl e))
  have h3 : (n == 4) = false := by simp; exact fun e => h (.inr (.inr (.inl e)))
  have h4 : (n == 8) = false := by simp; exact fun e => h (.inr (.inr (.inr e)))
  clear h
  go_enter Try.func23, Try.ntmps23
  go_wp2_with fail
  go_ret
  exact ⟨rfl, rfl⟩
theorem wput_not (x : Int) (n : Int) (h : ¬ wholeP n) (p : Nat) (w : World) : Calls Try.prog 16 #[.pointer (some ⟨p, 0, none⟩), .int .u64 x, .int .i64 n] w fun e w' => e = .returned (.tuple #[]) ∧ w = w' := by
  have C := Lib.hid (whole_f n h w)
  clear h
  go_enter Try.func16, Try.ntmps16
  go_wp2_with fail
  refine C.out.mono ?_
  rintro e w1 ⟨rfl, rfl⟩
  go_wp2_with fail
  refine bodyPost_ret (results_none rfl _ _ _) rfl ?_
  exact ⟨rfl, rfl⟩
def WDone (w w' : World) (p : Nat) (r : Option Nat) (bs : List UInt8) : Prop := ∃ r', WtO w' p r' bs ∧ (r' = r ∨ ∃ g, r' = some g ∧ w.heap.size ≤ g) ∧ PTouch p r w w'
theorem WDone.trans {a b c : World} {p : Nat} {r : Option Nat} {bs bs' : List UInt8} (h : WDone a b p r bs) (k : ∀ r', WtO b p r' bs → WDone b c p r' bs') : WDone a c p r bs' := by
  obtain ⟨r1, h1, h2, h3⟩ := h
  obtain ⟨r2, k1, k2, k3⟩ := k r1 h1
  refine ⟨r2, k1, ?_, h3.trans k3 h2⟩
  rcases k2 with rfl | ⟨g, rfl, hg⟩
  · exact h2
  · exact .inr ⟨g, rfl, Nat.le_trans h3.size hg⟩
theorem wdone_step {w wr w2 : World} {p : Nat} {r r1 r2 : Option Nat} {bs : List UInt8} (h : (r1 = r ∨ ∃ g, r1 = some g ∧ w.heap.size ≤ g) ∧ PTouch p r w wr) (k : WtO w2 p r2 bs ∧ (r2 = r1 ∨ ∃ g, r2 = some g ∧ wr.heap.size ≤ g) ∧ PTouch p r1 wr w2) : WDone w w2 p r bs := by
  obtain ⟨h1, h2⟩ := h
  obtain ⟨k1, k2, k3⟩ := k
  refine ⟨r2, k1, ?_, h2.trans k3 h1⟩
  rcases k2 with rfl | ⟨g, rfl, hg⟩
  · exact h1
  · exact .inr ⟨g, rfl, Nat.le_trans h2.size hg⟩
theorem wt_done1 {wr w5 : World} {p z : Nat} {v v' : Value} {bs : List UInt8} {cs : Array Value} {t : TypeId} (hk : Bk wr p 57 #[v]) (hg : (wr.alloc (.cells cs t)).grownBy w5 v.ownBlock) (hor : v'.ownBlock = v.ownBlock ∨ v'.ownBlock = some (wr.alloc (.cells cs t)).heap.size) (hne : v.ownBlock ≠ some p)
    (ho : w5.ownsRow 0 5 1 v' (bs.length + 1) (bs.map bv ++ [.int .u8 ((z : Int) % 256)])) :
    WtO (w5.setCell ⟨p, 0, none⟩ v') p v'.ownBlock (bs ++ [UInt8.ofNat (z % 256)]) ∧ (v'.ownBlock = v.ownBlock ∨ ∃ g, v'.ownBlock = some g ∧ wr.heap.size ≤ g) ∧ PTouch p v.ownBlock wr (w5.setCell ⟨p, 0, none⟩ v') := by
  refine Wt.done hk (below_al wr _) (by rw [List.length_append]) ?_ hg hor hne
  rw [List.map_append]
  simpa [bv] using ho
set_option maxRecDepth 100000 in
set_option maxHeartbeats 400000 in
theorem wput_ok (x n : Nat) (hx : x ≤ 18446744073709551615) (hn : wholeP n) {p : Nat} {r : Option Nat} {bs : List UInt8} (w : World) (h : WtO w p r bs) (hb : bs.length ≤ 1000000000) :
    Calls Try.prog 16 #[.pointer (some ⟨p, 0, none⟩), .int .u64 x, .int .i64 n] w fun e w' => e = .returned (.tuple #[]) ∧ WDone w w' p r (bs ++ putL x n) := by
  have C := Lib.hid (whole_t n hn w)
  have h8 : n ≤ 8 := by rcases hn with hn | hn | hn | hn <;> omega
  clear hn
  go_enter Try.func16, Try.ntmps16
  go_wp2_with fail
  refine C.out.mono ?_
  rintro e w1 ⟨rfl, rfl⟩
  go_wp2_with fail
  go_loopw [10, 1] (fun i y wr => ∃ k z : Nat, k ≤ n ∧ i = .int .i64 k ∧ y = .int .u64 z ∧ Hid (z = x / 256 ^ k) ∧ z ≤ 18446744073709551615 ∧ WDone w wr p r (bs ++ putL x k)) (fun i y wr => n - (intOf i).toNat)
  case atStart => exact ⟨0, x, Nat.zero_le _, rfl, rfl, Lib.hid (by simp), hx, r, by simpa [putL] using h, .inl rfl, PTouch.refl _ _ _⟩
  case round =>
    obtain ⟨k, z, hk, rfl, rfl, hz, hzx, hW⟩ := hrel
    by_cases hlt : k < n
    · have HW := Lib.hid hW
      obtain ⟨r1, hw1, hr1, hT1⟩ := hW
      obtain ⟨⟨v, hkv, hvr, ho⟩, hne⟩ := hw1
      subst hvr
      have c0 := hkv.cell 0
      have f0 := hkv.frozen 0
      have HL := Lib.hid (by rw [List.length_append, putL_len]; have := hb; omega : (bs ++ putL x k).length ≤ 1000000008)
      have HR := Lib.hid (And.intro hr1 hT1)
      clear hr1 hT1
      go_wp2_with (at_builtin; refine wpl_append rfl _ _ _ rfl 0 5 _ 1 1 Try.underlying22 info_u8 rfl (by omega) (by omega) _ _ _ rfl (own_below ho (below_al _ _)) _ 1 [.int .u8 ((z : Int) % 256)] rfl (Sl.made _ #[.int .u8 ((z : Int) % 256)] _ 1 1 (by omega) rfl) (by intro u hu; simp at hu; subst hu; rfl) (by have := HL.out; omega) (by simp) ?_; intro v' w5 hown5 hgrow5 hor5; obtain ⟨A5, c5, rfl⟩ := own_form hown5; have hk5 := (hkv.below' (below_al wr _)).grown hgrow5 (fun e => hne e.symm); have e0 := hk5.cell 0; have e1 := hk5.frozen 0)
      have hfin := wdone_step HR.out (wt_done1 hkv hgrow5 hor5 hne hown5)
      simp only [List.length_append] at hfin
      exact ⟨⟨k + 1, z / 256, hlt, by go_num, by go_num, Lib.hid (by rw [hz.out, Nat.div_div_eq_div_mul, Nat.pow_succ]), Nat.le_trans (Nat.div_le_self _ _) hzx, by
        rw [putL, ← List.append_assoc, ← hz.out]; exact hfin⟩, by simp [intOf]; omega⟩
    · obtain rfl : k = n := by omega
      go_wp2_with fail
      go_end0
      exact ⟨rfl, hW⟩
theorem wint_any (z : Int) {p : Nat} {r : Option Nat} {bs : List UInt8} (w : World) (h : WtO w p r bs) (hb : bs.length ≤ 1000000000) (hz : wfi .i64 z) :
    Calls Try.prog 58 #[.pointer (some ⟨p, 0, none⟩), .int .i64 z] w fun e w' => e = .returned (.tuple #[]) ∧ WDone w w' p r (bs ++ putL (u64 z) 8) := by
  have C := wput_ok (u64 z) 8 (u64_le z) (.inr (.inr (.inr rfl))) w h hb
  rw [u64_wrap] at C
  have C := Lib.hid C
  go_enter Try.func58, Try.ntmps58
  go_wp2_with fail
  refine C.out.mono ?_
  rintro e w1 ⟨rfl, hW⟩
  go_wp2_with fail
  go_end0
  exact ⟨rfl, hW⟩
set_option maxRecDepth 100000 in
theorem wtext_any (s : ByteArray) {p : Nat} {r : Option Nat} {bs : List UInt8} (w : World) (h : WtO w p r bs) (hb : bs.length ≤ 1000000000) (hs : s.size ≤ maxLen) :
    Calls Try.prog 43 #[.pointer (some ⟨p, 0, none⟩), .string s] w fun e w' => e = .returned (.tuple #[]) ∧ WDone w w' p r (bs ++ putL (min s.size 255) 1 ++ (s.data.toList.take 255)) := by
  unfold maxLen at hs
  have h0 : (bs ++ putL (min s.size 255) 1).length = bs.length + (putL (min s.size 255) 1).length := List.length_append
  rw [putL_len] at h0
  by_cases hl : s.size ≤ 255
  · have hmin : min s.size 255 = s.size := by omega
    rw [hmin] at h0
    have htk : s.data.toList.take 255 = s.data.toList := List.take_of_length_le (by rw [Array.length_toList]; exact hl)
    rw [hmin, htk]
    have C := Lib.hid (wput_ok s.size 1 (by omega) (.inl rfl) w h hb)
    have HL := Lib.hid h0
    clear h0 htk hmin
    go_enter Try.func43, Try.ntmps43
    go_wp2_with fail
    refine C.out.mono ?_
    rintro e w1 ⟨rfl, hW⟩
    obtain ⟨r1, hw1, hr1, hT1⟩ := hW
    obtain ⟨⟨v, hkv, hvr, ho⟩, hne⟩ := hw1
    subst hvr
    have c0 := hkv.cell 0
    have f0 := hkv.frozen 0
    have HR := Lib.hid (And.intro hr1 hT1)
    clear hr1 hT1
    go_wp2_with (at_builtin; refine wpl_append_str rfl _ _ _ _ rfl 0 5 Try.underlying22 Try.underlying9 info_u8 _ _ _ rfl ho s rfl (by have := HL.out; omega) (by omega) ?_; intro v' w5 hown5 hgrow5 hor5; obtain ⟨A5, c5, rfl⟩ := own_form hown5; have hk5 := hkv.grown hgrow5 (fun e => hne e.symm); have e0 := hk5.cell 0; have e1 := hk5.frozen 0)
    simp only [List.length_append] at hown5 hor5
    have hfin := wdone_step HR.out (Wt.done (bs' := bs ++ putL s.size 1 ++ s.data.toList) hkv (Below.refl _ _) (by simp only [List.length_append, Array.length_toList]; rfl) (by rw [List.map_append]; exact hown5) hgrow5 hor5 hne)
    go_end0
    exact ⟨rfl, hfin⟩
  · have hmin : min s.size 255 = 255 := by omega
    have hmin2 : min 255 s.size = 255 := by omega
    rw [hmin] at h0 ⊢
    have C := Lib.hid (wput_ok 255 1 (by omega) (.inl rfl) w h hb)
    have HL := Lib.hid h0
    clear h0 hmin
    go_enter Try.func43, Try.ntmps43
    go_wp2_with fail
    have hx1 : (s.extract 0 255).size = 255 := by rw [ByteArray.size_extract]; omega
    have hx2 : s.data.toList.take 255 = (s.extract 0 255).data.toList := by
      rw [ByteArray.data_extract, Array.toList_extract]
      simp [List.extract]
    generalize s.extract 0 255 = s2 at hx1 hx2 ⊢
    have HX2 := Lib.hid hx2
    clear hx2
    have HX := Lib.hid hx1
    clear hx1
    refine C.out.mono ?_
    rintro e w1 ⟨rfl, hW⟩
    obtain ⟨r1, hw1, hr1, hT1⟩ := hW
    obtain ⟨⟨v, hkv, hvr, ho⟩, hne⟩ := hw1
    subst hvr
    have c0 := hkv.cell 0
    have f0 := hkv.frozen 0
    have HR := Lib.hid (And.intro hr1 hT1)
    clear hr1 hT1
    go_wp2_with (at_builtin; refine wpl_append_str rfl _ _ _ _ rfl 0 5 Try.underlying22 Try.underlying9 info_u8 _ _ _ rfl ho s2 rfl (by have := HL.out; have := HX.out; omega) (by omega) ?_; intro v' w5 hown5 hgrow5 hor5; obtain ⟨A5, c5, rfl⟩ := own_form hown5; have hk5 := hkv.grown hgrow5 (fun e => hne e.symm); have e0 := hk5.cell 0; have e1 := hk5.frozen 0)
    simp only [List.length_append] at hown5 hor5
    have hfin := wdone_step HR.out (Wt.done (bs' := bs ++ putL 255 1 ++ s2.data.toList) hkv (Below.refl _ _) (by simp only [List.length_append, Array.length_toList]; rfl) (by rw [List.map_append]; exact hown5) hgrow5 hor5 hne)
    go_end0
    rw [HX2.out]
    exact ⟨rfl, hfin⟩
end Go.Proofs.Ythdjfcfbmmmmcaa
