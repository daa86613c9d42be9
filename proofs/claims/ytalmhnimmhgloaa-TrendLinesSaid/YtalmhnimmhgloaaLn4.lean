/-
  The walk of the statement TrendLines: its main way.
-/
import Derived.Test.YtalmhnimmhgloaaLn3
import Derived.Deep.QuietTactic
import Derived.BigQuiet
namespace Go.Proofs.Ytalmhnimmhgloaa
open Go.RowKit Go.Proofs.Mem LineLaw
set_option linter.unusedVariables false
set_option linter.unusedSimpArgs false
def u8iv (n : Int) : Value := .int .u8 n
theorem own_smp (w : World) (base : Nat) (a b : Int) (hb : base ≤ w.heap.size) : (w.alloc (.cells #[.int .i64 a, .int .i64 b] 71)).ownsRow base 71 2 (.slice (some ⟨w.heap.size, 0, none⟩) 1 1) 1 [.int .i64 a, .int .i64 b] :=
  Bk.own (Bk.new w _ _) (size := 2) (n := 1) (c := 1) hb (Nat.le_refl _) (by simp only [maxLen]; omega) rfl
theorem wpl_pushT {w : World} {ops : Array Oper} {rest : List Oper} {o : Oper} {a : Act} {Q : Exit → Act → World → Prop} (hgd : o.guard = none) (s x : Operand)
    (ho : o.op = .call { callee := .builtin .append, args := #[s, x], argTypes := #[62, 62] }) {base : Nat} {v : Value} {n : Nat} {xs : List Value} (hown : w.ownsRow base 71 2 v n xs) (T y : Int)
    (hb : base ≤ w.heap.size) (hl : n ≤ 4096) (hs : a.eval s = v) (hx : a.eval x = .slice (some ⟨w.heap.size, 0, none⟩) 1 1)
    (h : ∀ A c w', w'.ownsRow base 71 2 (.slice A (n + 1) c) (n + 1) (xs ++ [.int .i64 T, .int .i64 y]) → Below base w w' → wpList Try.prog ops Q rest (a.put o.dst (.slice A (n + 1) c)) w') :
    wpList Try.prog ops Q (o :: rest) a (w.alloc (.cells #[.int .i64 T, .int .i64 y] 71)) := by
  refine wpl_append hgd s x _ ho base 71 _ 2 16 Try.underlying62 info_sample rfl (by omega) (by omega) v n _ hs (hown.alloc _) _ 1 [.int .i64 T, .int .i64 y] hx
    (Sl.made w #[.int .i64 T, .int .i64 y] 71 1 1 (Nat.le_refl _) rfl) (by intro u hu; simp at hu; rcases hu with rfl | rfl <;> rfl) (by omega) (by simp; omega) ?_
  intro v' w' h1 h2 _
  obtain ⟨A, c, rfl, _⟩ := id (Sl.of_own h1)
  have hb1 : Below base w (w.alloc (.cells #[.int .i64 T, .int .i64 y] 71)) := (Below.refl _ _).alloc hb _
  exact h A c w' h1 (below_grown hb1 (hown.alloc _) h2 (by simp; omega) (Nat.le_refl _))
set_option maxHeartbeats 4000000 in
set_option maxRecDepth 100000 in
theorem lines_main (p q r s : Int) (zs : List Int) (v : Value) (w : World) (hp : 0 ≤ p ∧ p ≤ 4294967295) (hq : 0 ≤ q ∧ q ≤ 4294967295) (hr : 0 ≤ r ∧ r ≤ 65535) (hs : 0 ≤ s ∧ s ≤ 65535) (h1 : 1 ≤ zs.length) (h2 : zs.length ≤ 30) (hz : Gap zs) (h : Sl w 1 v zs.length (zs.map u8iv)) :
    Calls Try.prog 8 #[.int .u32 p, .int .u32 q, .int .u16 r, v, .int .u16 s] w fun e w' => e = .returned (.bool true) ∧ Below w.heap.size w w' := by
  obtain ⟨A, c, rfl, hc, _⟩ := id h
  have i1 : ((zs.length : Int) == 0) = false := beq_eq_false_iff_ne.2 (by omega)
  have i2 : (zs.length : Int) ≤ 30 := by omega
  obtain ⟨V, hV⟩ : ∃ V, V = p % 1000000 := ⟨_, rfl⟩
  obtain ⟨St, hSt⟩ : ∃ St, St = r % 1000 := ⟨_, rfl⟩
  have hVb : 0 ≤ V ∧ V < 1000000 := by omega
  have hSb : 0 ≤ St ∧ St < 1000 := by omega
  have CV : Hid (∀ (b5 b7 b12 : Nat) (t : Int) (w1 : World), w1.cell? ⟨b5, 0, none⟩ = some (.int .u32 p) → w1.cell? ⟨b7, 0, none⟩ = some (.int .u16 r) → w1.cell? ⟨b12, 0, none⟩ = some (.int .i64 q) → q ≤ t ∧ t ≤ q + 65535 → Calls Try.prog 29 #[.int .i64 t, .pointer (some ⟨b5, 0, none⟩), .pointer (some ⟨b7, 0, none⟩), .pointer (some ⟨b12, 0, none⟩)] w1 fun e w' => e = .returned (.int .i64 (vN V St q t)) ∧ w1 = w') := Lib.hid (by
    intro b5 b7 b12 t w1 h5 h7 h12 ht
    rw [hV, hSt]
    exact value_any p r q t b5 b7 b12 w1 hp hr h5 h7 h12 ht hq)
  clear hV hSt
  obtain ⟨q0, q1⟩ := hq
  obtain ⟨s0, s1⟩ := hs
  have HZ := Lib.hid hz
  clear hz
  go_enter Try.func8, Try.ntmps8
  go_wp2_with fail
  have k5 : Bk ((w.alloc (.cells #[.int .u32 p] 74)).alloc (.cells #[.int .u16 r] 33)) w.heap.size 74 #[.int .u32 p] := (Bk.new w _ _).alloc _
  have k7 : Bk ((w.alloc (.cells #[.int .u32 p] 74)).alloc (.cells #[.int .u16 r] 33)) (w.heap.size + 1) 33 #[.int .u16 r] := by
    have := Bk.new (w.alloc (.cells #[.int .u32 p] 74)) 33 #[.int .u16 r]
    rwa [World.size_alloc] at this
  have hb0 : Below w.heap.size w ((w.alloc (.cells #[.int .u32 p] 74)).alloc (.cells #[.int .u16 r] 33)) := (below_al _ _).alloc (by simp) _
  have hs0 : w.heap.size + 2 = ((w.alloc (.cells #[.int .u32 p] 74)).alloc (.cells #[.int .u16 r] 33)).heap.size := by simp
  obtain ⟨b7, hb7⟩ : ∃ b7, b7 = w.heap.size + 1 := ⟨_, rfl⟩
  generalize (w.alloc (.cells #[.int .u32 p] 74)).alloc (.cells #[.int .u16 r] 33) = w0 at *
  refine (lives42_any _).mono ?_
  rintro e w1 ⟨rfl, hb1⟩
  have k5' := k5.below' hb1
  have k7' := k7.below' hb1
  have hB1 := hb0.trans (hb1.mono (by omega))
  have hs1 := hb1.size
  clear k5 k7 hb0 hb1
  go_wp2_with fail
  have kq := Bk.new w1 2 #[.int .i64 q]
  have k5 := k5'.alloc (.cells #[.int .i64 q] 2)
  have k7 := k7'.alloc (.cells #[.int .i64 q] 2)
  have hB2 := hB1.alloc hB1.size (.cells #[.int .i64 q] 2)
  have hs2 : (w1.alloc (.cells #[.int .i64 q] 2)).heap.size = w1.heap.size + 1 := by simp
  obtain ⟨b5, hb5⟩ : ∃ b5, b5 = w.heap.size := ⟨_, rfl⟩
  obtain ⟨b12, hb12⟩ : ∃ b12, b12 = w1.heap.size := ⟨_, rfl⟩
  have hbb : w.heap.size + 2 ≤ b12 := by omega
  rw [← hb7] at k7 ⊢
  rw [← hb12] at kq hs2 ⊢
  rw [← hb5] at k5
  obtain ⟨W2, hW2⟩ : ∃ W2, W2 = w1.alloc (.cells #[.int .i64 q] 2) := ⟨_, rfl⟩
  rw [← hW2] at kq k5 k7 hB2 hs2 ⊢
  rw [← hb5]
  have l5 : b5 < b12 + 1 := by omega
  have l7 : b7 < b12 + 1 := by omega
  have HB5 := Lib.hid hb5
  have HB7 := Lib.hid hb7
  clear hW2 k5' k7' hB1 hs1 hs0 hb5 hb7 hb12
  refine (CV.out b5 b7 b12 q W2 (k5.cell 0) (k7.cell 0) (kq.cell 0) (by omega)).mono ?_
  rintro e w2 ⟨rfl, rfl⟩
  go_wp2_with fail
  have hv0 : vN V St q q = vN V St q (atN q zs 0) := rfl
  have hown := own_smp W2 (b12 + 1) q (vN V St q q) (by omega)
  have k5' := k5.alloc (.cells #[.int .i64 q, .int .i64 (vN V St q q)] 71)
  have k7' := k7.alloc (.cells #[.int .i64 q, .int .i64 (vN V St q q)] 71)
  have kq' := kq.alloc (.cells #[.int .i64 q, .int .i64 (vN V St q q)] 71)
  have hB3 := hB2.alloc hB2.size (.cells #[.int .i64 q, .int .i64 (vN V St q q)] 71)
  rw [hs2] at hown
  have hs3 : b12 + 1 ≤ (W2.alloc (.cells #[.int .i64 q, .int .i64 (vN V St q q)] 71)).heap.size := by simp; omega
  generalize W2.alloc (.cells #[.int .i64 q, .int .i64 (vN V St q q)] 71) = W3 at *
  clear k5 k7 kq hB2
  go_loopw [11, 14, 16, 53] (fun at' lv g i wr => ∃ (k : Nat) (gv : Value), k ≤ zs.length ∧ i = .int .i64 k ∧ at' = .int .i64 (atN q zs k) ∧ g = gv ∧ wr.ownsRow (b12 + 1) 71 2 lv (k + 1) ((lin V St q zs (k + 1)).flatMap Smp.cells) ∧ Bk wr b5 74 #[.int .u32 p] ∧ Bk wr b7 33 #[.int .u16 r] ∧ Bk wr b12 2 #[.int .i64 q] ∧ Below w.heap.size w wr ∧ b12 + 1 ≤ wr.heap.size) (fun _ _ _ i wr => zs.length - (intOf i).toNat)
  case atStart => exact ⟨0, _, Nat.zero_le _, rfl, rfl, rfl, hown, k5', k7', kq', hB3, hs3⟩
  case round =>
    obtain ⟨k, gv, hk, rfl, rfl, rfl, hown, k5, k7, kq, hB, hsz⟩ := hrel
    clear k5' k7' kq' hB3 hs3
    by_cases hlt : k < zs.length
    · obtain ⟨ad, rfl, _, hcell⟩ := Sl.cell1 (k := k) (u := u8iv zs[k]) (h.below hB) (by simp [hlt])
      unfold u8iv at hcell
      have hg := HZ.out k
      rw [List.getElem?_eq_getElem hlt, Option.getD_some] at hg
      have hb := atN_bd q zs HZ.out k
      have hnx : atN q zs k + (1 + zs[k]) = atN q zs (k + 1) := by simp only [atN]; rw [List.getElem?_eq_getElem hlt, Option.getD_some]; omega
      have hE := lin_succ V St q zs (k + 1)
      rw [← hnx] at hE
      have hkI : (k : Int) < zs.length := by omega
      generalize zs[k] = g at *
      generalize atN q zs k = t at *
      have ht0 : 0 ≤ t := by omega
      have ht1 : t ≤ 4294975000 := by omega
      have ht2 : q ≤ t + (1 + g) ∧ t + (1 + g) ≤ q + 65535 := by omega
      have CVk := CV.out b5 b7 b12 (t + (1 + g)) wr (k5.cell 0) (k7.cell 0) (kq.cell 0) ht2
      obtain ⟨T, hT⟩ : ∃ T, T = t + (1 + g) := ⟨_, rfl⟩
      rw [← hT] at hE hnx ht2 CVk
      have HT := Lib.hid hT
      generalize vN V St q T = y at hE CVk
      have CVk := Lib.hid CVk
      clear hT
      have HE := Lib.hid hE
      have HNX := Lib.hid hnx
      have HT2 := Lib.hid ht2
      clear hE hnx hb ht2
      obtain ⟨g0, g1⟩ := hg
      go_wp2_with fail
      rw [← HT.out]
      refine CVk.out.mono ?_
      rintro e w5 ⟨rfl, rfl⟩
      go_wp2_with (at_builtin; refine wpl_pushT rfl _ _ rfl hown T y hsz (by omega) rfl rfl ?_; intro vA vc w6 hown6 hb6; have k56 := k5.below hb6 (by omega); have k76 := k7.below hb6 (by omega); have kq6 := kq.below hb6 (by omega); have hs6 := hb6.size)
      refine ⟨⟨_, _, _, _, _, _, _, _, _, _, _, _, _, _, _, _, _, _, _, _, _, ?_, rfl⟩, ?_⟩
      · exact ⟨k + 1, _, hlt, by go_num, by rw [HNX.out], rfl, by rw [HE.out, List.flatMap_append]; exact hown6, k56, k76, kq6, hB.trans (hb6.mono (by omega)), by omega⟩
      · simp [intOf]; omega
    · obtain rfl : k = zs.length := by omega
      obtain ⟨l, hl⟩ : ∃ l, l = lin V St q zs (zs.length + 1) := ⟨_, rfl⟩
      have hlen : l.length = zs.length + 1 := by rw [hl]; exact lin_length ..
      have hS : Sl wr 2 u14 l.length (l.flatMap Smp.cells) := by rw [hlen, hl]; exact Sl.of_own hown
      have hOK : OkL l := by rw [hl]; exact lin_ok V St q zs (zs.length + 1) hVb hSb ⟨q0, q1⟩ HZ.out (by omega) (by omega)
      have hfc : fc (T l (first l) l.length) s = V + St * s := by rw [hl]; exact lin_fc V St q zs (zs.length + 1) hVb hSb ⟨q0, q1⟩ HZ.out (by omega) (by omega) s s0 s1
      have hfi : first l = q := by rw [hl]; exact first_lin V St q zs (zs.length + 1) (by omega)
      have hup : ∀ (i : Nat) (h : i + 1 < l.length), (l[i]'(by omega)).v ≤ l[i + 1].v := by subst hl; exact lin_up V St q zs (zs.length + 1) hSb.1 HZ.out
      have hv0 : lastV l 0 = vN V St q q := by
        subst hl
        rw [lastV_eq _ 0 (by rw [lin_length]; omega), lin_get]; rfl
      have hvl : lastV l (l.length - 1) = vN V St q (atN q zs zs.length) := by
        subst hl
        rw [lin_length, Nat.add_sub_cancel, lastV_eq _ _ (by rw [lin_length]; omega), lin_get]
      have hlo : ∀ (i : Nat) (h : i < l.length), lastV l 0 ≤ l[i].v := by
        intro i hi
        rw [hv0]
        have : V ≤ l[i].v := by subst hl; exact lin_lo V St q zs (zs.length + 1) hSb.1 HZ.out i hi
        unfold vN
        rw [Int.sub_self, Int.mul_zero, Int.add_zero]
        exact this
      have hz := atN_bd q zs HZ.out zs.length
      clear hl
      have hG := hOK.good
      have CF := Lib.hid (fit_any l u14 wr hOK hS)
      have CA := Lib.hid (fun w1 => At_any (T l (first l) l.length) (first l) (lastAt l) (q + s) w1 hG (by omega) (by omega) (by omega) (by omega))
      have CR := Lib.hid (fun w1 (h : Sl w1 2 u14 l.length (l.flatMap Smp.cells)) => rise_any l u14 w1 (by omega) (by omega) hup hlo h)
      rw [hfi] at CA hfc
      have ev : fc (T l q l.length) (q + s - q) = vN V St q (q + s) := by
        have e1 : q + s - q = s := by omega
        unfold vN
        rw [e1, hfc]
      rw [ev] at CA
      rw [hv0, hvl] at CR
      unfold FitIs at CF
      rw [hfi] at CF
      unfold lineOf at CA
      have hn : (T l q l.length).n = l.length := by
        have := (T_bd (f := q) (l := l) (by have := hOK.few; rwa [hfi] at this) (Nat.le_refl _)).n
        exact this
      rw [hn] at CA
      have HS := Lib.hid hS
      clear hS hOK hfc hfi hup hlo hv0 hvl ev hG hn hown
      generalize (T l q l.length).x = a1 at *
      generalize (T l q l.length).y = a2 at *
      generalize (T l q l.length).over = a3 at *
      generalize (T l q l.length).under = a4 at *
      generalize (l.length : Int) = a0 at *
      generalize lastAt l = a5 at *
      generalize hat : atN q zs zs.length = z at *
      unfold lineV at CF CA
      have CVs := fun (w1 : World) (h5 : Bk w1 b5 74 #[.int .u32 p]) (h7 : Bk w1 b7 33 #[.int .u16 r]) (h12 : Bk w1 b12 2 #[.int .i64 q]) => CV.out b5 b7 b12 (q + s) w1 (h5.cell 0) (h7.cell 0) (h12.cell 0) (by omega)
      have CVq := fun (w1 : World) (h5 : Bk w1 b5 74 #[.int .u32 p]) (h7 : Bk w1 b7 33 #[.int .u16 r]) (h12 : Bk w1 b12 2 #[.int .i64 q]) => CV.out b5 b7 b12 q w1 (h5.cell 0) (h7.cell 0) (h12.cell 0) (by omega)
      have CVz := fun (w1 : World) (h5 : Bk w1 b5 74 #[.int .u32 p]) (h7 : Bk w1 b7 33 #[.int .u16 r]) (h12 : Bk w1 b12 2 #[.int .i64 q]) => CV.out b5 b7 b12 z w1 (h5.cell 0) (h7.cell 0) (h12.cell 0) (by omega)
      have CVs := Lib.hid CVs
      have CVq := Lib.hid CVq
      have CVz := Lib.hid CVz
      generalize vN V St q (q + s) = y1 at *
      generalize vN V St q q = y2 at *
      generalize vN V St q z = y3 at *
      go_wp2_with fail
      refine CF.out.mono ?_
      rintro e w4 ⟨rfl, hb4⟩
      have k54 := k5.below' hb4
      have k74 := k7.below' hb4
      have kq4 := kq.below' hb4
      have hB4 := hB.trans (hb4.mono hB.size)
      have hs4 := hb4.size
      have l12 : b12 < w4.heap.size := by omega
      have c12 := (kq4.alloc (.cells #[.int .i64 a0, .int .i64 q, .int .i64 a5, .int .i64 a1, .int .i64 a2, .int .i64 a3, .int .i64 a4] 65)).cell 0
      go_wp2_with fail
      have k5a := k54.alloc (.cells #[.int .i64 a0, .int .i64 q, .int .i64 a5, .int .i64 a1, .int .i64 a2, .int .i64 a3, .int .i64 a4] 65)
      have k7a := k74.alloc (.cells #[.int .i64 a0, .int .i64 q, .int .i64 a5, .int .i64 a1, .int .i64 a2, .int .i64 a3, .int .i64 a4] 65)
      have kqa := kq4.alloc (.cells #[.int .i64 a0, .int .i64 q, .int .i64 a5, .int .i64 a1, .int .i64 a2, .int .i64 a3, .int .i64 a4] 65)
      have hba := hb4.alloc hs4 (.cells #[.int .i64 a0, .int .i64 q, .int .i64 a5, .int .i64 a1, .int .i64 a2, .int .i64 a3, .int .i64 a4] 65)
      generalize w4.alloc (.cells #[.int .i64 a0, .int .i64 q, .int .i64 a5, .int .i64 a1, .int .i64 a2, .int .i64 a3, .int .i64 a4] 65) = w5 at *
      refine (CA.out w5).mono ?_
      rintro e w6 ⟨rfl, hb6⟩
      have hb6' := hba.trans (hb6.mono hba.size)
      have CR1 := CR.out w6 (HS.out.below hb6')
      go_wp2_with fail
      refine CR1.mono ?_
      rintro e w7 ⟨rfl, hb7⟩
      have hb7' := hb6'.trans (hb7.mono hb6'.size)
      have k57 := k5.below' hb7'
      have k77 := k7.below' hb7'
      have kq7 := kq.below' hb7'
      have hB7 := hB.trans (hb7'.mono hB.size)
      have c12 := kq7.cell 0
      go_wp2_with fail
      refine (rise_none w7).mono ?_
      rintro e w8 ⟨rfl, rfl⟩
      go_wp2_with fail
      refine (CVs.out w7 k57 k77 kq7).mono ?_
      rintro e w8 ⟨rfl, rfl⟩
      go_wp2_with fail
      refine (CVq.out w7 k57 k77 kq7).mono ?_
      rintro e w8 ⟨rfl, rfl⟩
      go_wp2_with fail
      refine (CVz.out w7 k57 k77 kq7).mono ?_
      rintro e w8 ⟨rfl, rfl⟩
      go_wp2_with fail
      go_ret
      exact ⟨rfl, hB7⟩
/-- The law's walk. -/
theorem trendLines_walk (p q r : Int) (A : Option Addr) (n c : Nat) (s : Int) (w : World) (wp : (Lit.int .u32 p).wf = true) (wq : (Lit.int .u32 q).wf = true) (wr : (Lit.int .u16 r).wf = true) (h : Ok Try.prog w 9 75 (Value.slice A n c).cells.toList) (ws : (Lit.int .u16 s).wf = true) :
    Calls Try.prog 8 #[.int .u32 p, .int .u32 q, .int .u16 r, .slice A n c, .int .u16 s] w fun e w' => e = .returned (.bool true) ∧ Below w.heap.size w w' := by
  obtain ⟨hm, zs, hz, hS, hw⟩ := uints_of (m := 7) Try.underlying75 Try.underlying5 (by kernel_rfl) h
  have hp : 0 ≤ p ∧ p ≤ 4294967295 := by simp [Lit.wf, IntKind.min, IntKind.max, IntKind.signed, IntKind.bits] at wp; omega
  have hq : 0 ≤ q ∧ q ≤ 4294967295 := by simp [Lit.wf, IntKind.min, IntKind.max, IntKind.signed, IntKind.bits] at wq; omega
  have hr : 0 ≤ r ∧ r ≤ 65535 := by simp [Lit.wf, IntKind.min, IntKind.max, IntKind.signed, IntKind.bits] at wr; omega
  have hs : 0 ≤ s ∧ s ≤ 65535 := by simp [Lit.wf, IntKind.min, IntKind.max, IntKind.signed, IntKind.bits] at ws; omega
  by_cases hl : 1 ≤ n ∧ n ≤ 30
  · subst hz
    refine lines_main p q r s zs _ w hp hq hr hs hl.1 hl.2 ?_ hS
    intro k
    rcases Nat.lt_or_ge k zs.length with hk | hk
    · rw [List.getElem?_eq_getElem hk, Option.getD_some]
      have := hw _ (List.getElem_mem hk)
      simp [Lit.wf, IntKind.min, IntKind.max, IntKind.signed, IntKind.bits] at this
      omega
    · rw [List.getElem?_eq_none hk]
      simp
  · exact lines_early p q r s n A c w hm (by omega)
end Go.Proofs.Ytalmhnimmhgloaa
