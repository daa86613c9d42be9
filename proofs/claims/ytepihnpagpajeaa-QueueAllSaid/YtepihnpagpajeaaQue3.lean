/-
  The walks of package queue: out of hand, Done, wait, Failed, Fails.
-/
import Derived.Test.YtepihnpagpajeaaQue2
namespace Go.Proofs.Ytepihnpagpajeaa
open Go.RowKit Go.Proofs.Mem
open Go.Maps (Keyed string_keyed)
open Go.WideMaps (keyOf_string_mk)
set_option linter.unusedVariables false
set_option linter.unusedSimpArgs false
def OutQ (q b f n m : Nat) (c0 c1 c2 : Int) (D F : DataW Value) (kl : Lit) (a : Int) (g : Bool) (w : World) (e : Ending) (w' : World) : Prop :=
  e = .returned (.tuple #[.agg #[.int .i64 a, .bool true, .bool g], .int .i64 0]) ∧ QIs w' q b f n m c0 c1 c2 (D.del kl) F ∧ T2 b f w w'
set_option maxHeartbeats 1000000 in
set_option maxRecDepth 100000 in
theorem out_hand (w : World) (q b f n m : Nat) (c0 c1 c2 : Int) (D F : DataW Value) (h : QIs w q b f n m c0 c1 c2 D F) (s : ByteArray) (hsl : s.size ≤ maxLen) (now : Int) (a0 : 0 ≤ now) (a1 : now ≤ 4611686018427387904) (a : Int) (g : Bool)
    (hv : valAt D (.string s.data.toList) zI = itV a true g) :
    Calls Try.prog 60 #[.pointer (some ⟨q, 0, none⟩), .string s, .int .i64 now] w (OutQ q b f n m c0 c1 c2 D F (.string s.data.toList) a g w) := by
  have CR := Lib.hid (fun w1 => qright_any now w1 a0 a1)
  have hkey := keyOf_string_mk Try.underlying9 hsl
  obtain ⟨kl, hkl⟩ : ∃ kl, kl = Lit.string s.data.toList := ⟨_, rfl⟩
  rw [← hkl] at hv hkey ⊢
  have HV := Lib.hid hv
  have HQ := Lib.hid h
  clear hsl hkl h a0 a1 hv
  go_enter Try.func60, Try.ntmps60
  go_wp2_with fail
  have k0 := Bk.new w 153 #[.int .i64 0, .bool false, .bool false]
  have HQ1 := Lib.hid (HQ.out.below ((Below.refl w.heap.size w).alloc (Nat.le_refl _) (.cells #[.int .i64 0, .bool false, .bool false] 153)))
  have hB1 := (Below.refl w.heap.size w).alloc (Nat.le_refl _) (.cells #[.int .i64 0, .bool false, .bool false] 153)
  have hz1 := World.size_alloc w (.cells #[.int .i64 0, .bool false, .bool false] 153)
  generalize w.alloc (.cells #[.int .i64 0, .bool false, .bool false] 153) = w1 at k0 HQ1 hB1 hz1 ⊢
  obtain ⟨d0, d1, d2, d3, d4⟩ := HQ1.out.cells
  have hm1 := HQ1.out.2.2.2.1
  refine (CR.out w1).mono ?_
  rintro e w' ⟨rfl, rfl⟩
  have HZ1 := Lib.hid hz1
  clear hz1
  have hca : ∀ o, (w1.alloc o).cell? ⟨q, 3, none⟩ = some (.map (some b)) := fun o => (HQ1.out.2.2.1.alloc o).cell 3
  have hbl := HQ.out.2.2.2.1.lt
  have hbl1 := hm1.lt
  have hxl := k0.lt
  go_wp2_with (first
    | (at_lookup; refine wpl_look rfl _ _ 154 rfl 9 153 strKq Try.underlying154 zeroItm b n D rfl hm1 _ _ rfl hkey ?_; rw [show Value.agg #[.int .i64 0, .bool false, .bool false] = zI from rfl, HV.out]; unfold itV)
    | (at_delete; refine wpl_delete_map rfl _ _ 154 9 rfl 153 strKq Try.underlying154 b n D rfl (hm1.alloc (.cells #[.int .i64 a, .bool true, .bool g] 153)) _ _ rfl hkey ?_; intro w3 hm3 hg3 hs3
       have kx3 := (Bk.new w1 153 #[.int .i64 a, .bool true, .bool g]).grown hg3 (by simp; omega)
       have k03 := (k0.alloc (.cells #[.int .i64 a, .bool true, .bool g] 153)).grown hg3 (by simp; omega)
       have x0 := kx3.cell 0
       have x1 := kx3.cell 1
       have x2 := kx3.cell 2
       have y0 := k03.cell 0
       have y1 := k03.cell 1
       have y2 := k03.cell 2
       have z0 := k03.frozen 0
       have z1 := k03.frozen 1
       have z2 := k03.frozen 2
       have HG := Lib.hid hg3
       have HS := Lib.hid hs3
       clear hg3 hs3))
  have hB2 := hB1.alloc hB1.size (.cells #[.int .i64 a, .bool true, .bool g] 153)
  have hB3 : T2 b f w w3 := (T2.of_below hB2).trans (T2.turnD HG.out)
  have HQ3 := ((HQ1.out.below ((Below.refl w1.heap.size w1).alloc (Nat.le_refl _) (.cells #[.int .i64 a, .bool true, .bool g] 153))).turnD HG.out hm3)
  have hB4 := ((hB3.setNew (p := ⟨w.heap.size, 0, none⟩) (Nat.le_refl _) (.int .i64 a)).setNew (p := ⟨w.heap.size, 1, none⟩) (Nat.le_refl _) (.bool true)).setNew (p := ⟨w.heap.size, 2, none⟩) (Nat.le_refl _) (.bool g)
  have HQ4 : QIs (((w3.setCell ⟨w.heap.size, 0, none⟩ (.int .i64 a)).setCell ⟨w.heap.size, 1, none⟩ (.bool true)).setCell ⟨w.heap.size, 2, none⟩ (.bool g)) q b f n m c0 c1 c2 (D.del kl) F := by
    obtain ⟨i1, i2, i3, i4, i5⟩ := HQ3
    have hql := HQ.out.2.2.1.lt
    have n1 : q ≠ w.heap.size := by omega
    have n2 : b ≠ w.heap.size := by omega
    have n3 : f ≠ w.heap.size := by omega
    exact ⟨i1, i2, ((i3.far n1 _).far n1 _).far n1 _, ((i4.setCell n2 _).setCell n2 _).setCell n2 _, ((i5.setCell n3 _).setCell n3 _).setCell n3 _⟩
  have kf := ((k03.set 0 (.int .i64 a)).set 1 (.bool true)).set 2 (.bool g)
  simp at kf
  have u0 := kf.cell 0
  have u1 := kf.cell 1
  have u2 := kf.cell 2
  refine bodyPost_ret (v := .tuple #[.agg #[.int .i64 a, .bool true, .bool g], .int .i64 0]) ?_ rfl ⟨rfl, HQ4, hB4⟩
  simp [results, Try.results60, go_sem, u0, u1, u2]
set_option maxHeartbeats 1000000 in
set_option maxRecDepth 100000 in
theorem done_hand (w : World) (q b f n m : Nat) (c0 c1 c2 : Int) (D F : DataW Value) (h : QIs w q b f n m c0 c1 c2 D F) (s : ByteArray) (hsl : s.size ≤ maxLen) (now : Int) (a0 : 0 ≤ now) (a1 : now ≤ 4611686018427387904) (a : Int)
    (hv : valAt D (.string s.data.toList) zI = itV a true false) :
    Calls Try.prog 26 #[.pointer (some ⟨q, 0, none⟩), .string s, .int .i64 now] w (AddQ q b f n m c0 c1 c2 (D.del (.string s.data.toList)) (F.del (.string s.data.toList)) w) := by
  have CO := Lib.hid (out_hand w q b f n m c0 c1 c2 D F h s hsl now a0 a1 a false hv)
  have hkey := keyOf_string_mk Try.underlying9 hsl
  obtain ⟨kl, hkl⟩ : ∃ kl, kl = Lit.string s.data.toList := ⟨_, rfl⟩
  rw [← hkl] at CO hkey ⊢
  have HQ := Lib.hid h
  clear hsl hkl h a0 a1 hv
  go_enter Try.func26, Try.ntmps26
  go_wp2_with fail
  refine CO.out.mono ?_
  rintro e w1 ⟨rfl, hQ1, hB1⟩
  have HQ2 := hQ1.below ((Below.refl w1.heap.size w1).alloc (Nat.le_refl _) (.cells #[.int .i64 a, .bool true, .bool false] 153))
  have hca : ∀ o, (w1.alloc o).cell? ⟨q, 4, none⟩ = some (.map (some f)) := fun o => (hQ1.2.2.1.alloc o).cell 4
  have hbl := hQ1.2.2.2.1.lt
  have hbf := hQ1.1
  have HQ1 := Lib.hid hQ1
  have hfl := hQ1.2.2.2.2.lt
  clear hQ1
  go_wp2_with (at_delete; refine wpl_delete_map rfl _ _ 155 9 rfl 3 strKq Try.underlying155 f m F rfl HQ2.2.2.2.2 _ _ rfl hkey ?_; intro w3 hm3 hg3 hs3; have kx3 := (Bk.new w1 153 #[.int .i64 a, .bool true, .bool false]).grown hg3 (by simp; omega); have x0 := kx3.cell 0; have x1 := kx3.cell 1; have x2 := kx3.cell 2; have HG := Lib.hid hg3; have HS := Lib.hid hs3; clear hg3 hs3)
  go_ret
  exact ⟨rfl, HQ2.turnF HG.out hm3, (hB1.alloc _).trans (T2.turnF HG.out)⟩
theorem fails_any (w : World) (q b f n m : Nat) (c0 c1 c2 : Int) (D F : DataW Value) (h : QIs w q b f n m c0 c1 c2 D F) (s : ByteArray) (hsl : s.size ≤ maxLen) (c : Int) (hv : valAt F (.string s.data.toList) (.int .i64 0) = .int .i64 c) :
    Calls Try.prog 27 #[.pointer (some ⟨q, 0, none⟩), .string s] w fun e w' => e = .returned (.int .i64 c) ∧ w = w' := by
  have hkey := keyOf_string_mk Try.underlying9 hsl
  have hm := h.2.2.2.2
  obtain ⟨d0, d1, d2, d3, d4⟩ := h.cells
  obtain ⟨kl, hkl⟩ : ∃ kl, kl = Lit.string s.data.toList := ⟨_, rfl⟩
  rw [← hkl] at hv hkey
  have HV := Lib.hid hv
  clear h hsl hkl hv
  go_enter Try.func27, Try.ntmps27
  go_wp2_with (at_lookup; refine wpl_look rfl _ _ 155 rfl 9 3 strKq Try.underlying155 zeroIntQ f m F rfl hm _ _ rfl hkey ?_; rw [HV.out])
  go_ret
  exact ⟨rfl, rfl⟩
/-- How long to wait behind so many failures, of rules 2 and 5. -/
def wt (c : Int) : Int := if c = 1 then 2 else if c = 2 then 4 else 5
theorem wait_any (w : World) (q b f n m : Nat) (c2 : Int) (D F : DataW Value) (h : QIs w q b f n m 2 5 c2 D F) (c : Int) (hc : c = 1 ∨ c = 2 ∨ c = 3 ∨ c = 4) :
    Calls Try.prog 61 #[.pointer (some ⟨q, 0, none⟩), .int .i64 c] w fun e w' => e = .returned (.int .i64 (wt c)) ∧ w = w' := by
  obtain ⟨d0, d1, d2, d3, d4⟩ := h.cells
  clear h
  rcases hc with rfl | rfl | rfl | rfl
  · go_enter Try.func61, Try.ntmps61
    go_wp2_with fail
    refine wp_loop_rounds 1 ?_
    rw [rounds_succ]
    go_wp2_with fail
    go_ret
    exact ⟨rfl, rfl⟩
  · go_enter Try.func61, Try.ntmps61
    go_wp2_with fail
    refine wp_loop_rounds 2 ?_
    rw [rounds_succ]
    go_wp2_with fail
    rw [rounds_succ]
    go_wp2_with fail
    go_ret
    exact ⟨rfl, rfl⟩
  · go_enter Try.func61, Try.ntmps61
    go_wp2_with fail
    refine wp_loop_rounds 3 ?_
    rw [rounds_succ]
    go_wp2_with fail
    rw [rounds_succ]
    go_wp2_with fail
    rw [rounds_succ]
    go_wp2_with fail
    go_ret
    exact ⟨rfl, rfl⟩
  · go_enter Try.func61, Try.ntmps61
    go_wp2_with fail
    refine wp_loop_rounds 3 ?_
    rw [rounds_succ]
    go_wp2_with fail
    rw [rounds_succ]
    go_wp2_with fail
    rw [rounds_succ]
    go_wp2_with fail
    go_ret
    exact ⟨rfl, rfl⟩
def FailQ (q b f n m : Nat) (c0 c1 c2 : Int) (D F : DataW Value) (r : Int) (w : World) (e : Ending) (w' : World) : Prop := e = .returned (.tuple #[.int .i64 r, .int .i64 0]) ∧ QIs w' q b f n m c0 c1 c2 D F ∧ T2 b f w w'
set_option maxHeartbeats 2000000 in
set_option maxRecDepth 100000 in
theorem failed_hand (w : World) (q b f n m : Nat) (c2 : Int) (D F : DataW Value) (h : QIs w q b f n m 2 5 c2 D F) (s : ByteArray) (hsl : s.size ≤ maxLen) (now : Int) (a0 : 0 ≤ now) (a1 : now ≤ 1000000) (c r : Int)
    (hv : valAt D (.string s.data.toList) zI = itV 0 true false) (hf : valAt F (.string s.data.toList) (.int .i64 0) = .int .i64 c) (hc : c + 1 = 1 ∨ c + 1 = 2 ∨ c + 1 = 3 ∨ c + 1 = 4) (hr : r = now + wt (c + 1)) (hn : n < maxLen) (hm0 : m < maxLen) :
    Calls Try.prog 22 #[.pointer (some ⟨q, 0, none⟩), .string s, .int .i64 now] w
      (FailQ q b f (n + 1) (m + 1) 2 5 c2 ((D.del (.string s.data.toList)).put (.string s.data.toList) (.held (itV r false false))) (F.put (.string s.data.toList) (.held (.int .i64 (c + 1)))) r w) := by
  have CO := Lib.hid (out_hand w q b f n m 2 5 c2 D F h s hsl now a0 (by omega) 0 false hv)
  have hkey := keyOf_string_mk Try.underlying9 hsl
  have hput := valAt_put_same h.2.2.2.2.isMap (keyLit_string s.data.toList) (.int .i64 (c + 1)) (.int .i64 0)
  obtain ⟨kl, hkl⟩ : ∃ kl, kl = Lit.string s.data.toList := ⟨_, rfl⟩
  rw [← hkl] at CO hkey hf hput ⊢
  have HF := Lib.hid hf
  have HP := Lib.hid hput
  have hcw : 0 ≤ c ∧ c ≤ 3 := by omega
  have hwb : 2 ≤ wt (c + 1) ∧ wt (c + 1) ≤ 5 := by unfold wt; split <;> (try split) <;> omega
  have CW := Lib.hid (fun (w1 : World) (n m : Nat) (D F : DataW Value) h => wait_any w1 q b f n m c2 D F h (c + 1) hc)
  generalize wt (c + 1) = z at hr hwb CW
  have HR := Lib.hid hr
  obtain ⟨hw0, hw1⟩ := hwb
  obtain ⟨hc0, hc1⟩ := hcw
  have HQ := Lib.hid h
  clear hsl hkl h hv hf hput hc hr
  go_enter Try.func22, Try.ntmps22
  go_wp2_with fail
  refine CO.out.mono ?_
  rintro e w1 ⟨rfl, hQ1, hB1⟩
  have HQ2 := Lib.hid (hQ1.below ((Below.refl w1.heap.size w1).alloc (Nat.le_refl _) (.cells #[.int .i64 0, .bool true, .bool false] 153)))
  have hca : ∀ o, (w1.alloc o).cell? ⟨q, 4, none⟩ = some (.map (some f)) := fun o => (hQ1.2.2.1.alloc o).cell 4
  have hbl := hQ1.2.2.2.1.lt
  have hbf := hQ1.1
  have hfl := hQ1.2.2.2.2.lt
  have hmF := HQ2.out.2.2.2.2
  clear hQ1
  go_wp2_with (first
    | (at_lookup; refine wpl_look rfl _ _ 155 rfl 9 3 strKq Try.underlying155 zeroIntQ f m F rfl hmF _ _ rfl hkey ?_; rw [HF.out])
    | (at_mapUpdate; refine wpl_store_map rfl _ _ _ 155 rfl 9 3 strKq Try.underlying155 f m F rfl hmF hm0 _ (.int .i64 (c + 1)) _ rfl rfl hkey ?_; intro w3 hm3 hg3 hs3; have HQ3 := Lib.hid (HQ2.out.turnF hg3 hm3); have kx3 := (Bk.new w1 153 #[.int .i64 0, .bool true, .bool false]).grown hg3 (by simp; omega); have x0 := kx3.cell 0; have x1 := kx3.cell 1; have x2 := kx3.cell 2; have HG := Lib.hid hg3; have HS := Lib.hid hs3; obtain ⟨d0, d1, d2, d3, d4⟩ := HQ3.out.cells; clear hg3 hs3)
    | (at_lookup; refine wpl_look rfl _ _ 155 rfl 9 3 strKq Try.underlying155 zeroIntQ f (m + 1) _ rfl hm3 _ _ rfl hkey ?_; rw [HP.out]))
  refine (CW.out w3 _ _ _ _ HQ3.out).mono ?_
  rintro e w' ⟨rfl, rfl⟩
  have hmD := HQ3.out.2.2.2.1
  go_wp2_with (at_mapUpdate; refine wpl_store_map rfl _ _ _ 154 rfl 9 153 strKq Try.underlying154 b n (D.del kl) rfl hmD hn _ (.agg #[.int .i64 (now + z), .bool false, .bool false]) _ rfl rfl hkey ?_; intro w4 hm4 hg4 hs4; have HG4 := Lib.hid hg4; clear hg4 hs4)
  go_ret2
  rw [HR.out]
  exact ⟨rfl, HQ3.out.turnD HG4.out hm4, ((hB1.alloc _).trans (T2.turnF HG.out)).trans (T2.turnD HG4.out)⟩
end Go.Proofs.Ytepihnpagpajeaa
