/-
  The walks of package queue: a new queue; an item that is added, comes into hand, is done or failed.
-/
import Derived.Test.YtepihnpagpajeaaQue
import Derived.RegionTactic
import Derived.StillTailTactics
import Derived.Outline
namespace Go.Proofs.Ytepihnpagpajeaa
open Go.RowKit Go.Proofs.Mem
open Go.Maps (Keyed string_keyed)
open Go.WideMaps (keyOf_string_mk)
set_option linter.unusedVariables false
set_option linter.unusedSimpArgs false
theorem zeroIntQ (w : World) : (zeroValue 3).run Try.prog w = .ok (.int .i64 0) w := by kernel_rfl
/-- A queue at block q: its maps' blocks, its rules, what the maps hold. -/
def QIs (w : World) (q b f n m : Nat) (c0 c1 c2 : Int) (D F : DataW Value) : Prop :=
  b < f ∧ f < q ∧ Bk w q 157 #[.int .i64 c0, .int .i64 c1, .int .i64 c2, .map (some b), .map (some f)] ∧ Mp Try.prog w 9 b n D ∧ Mp Try.prog w 9 f m F
theorem QIs.below {w w' : World} {q b f n m : Nat} {c0 c1 c2 : Int} {D F : DataW Value} (h : QIs w q b f n m c0 c1 c2 D F) (hb : Below w.heap.size w w') : QIs w' q b f n m c0 c1 c2 D F :=
  ⟨h.1, h.2.1, h.2.2.1.below' hb, h.2.2.2.1.below hb, h.2.2.2.2.below hb⟩
theorem QIs.turnD {w w' : World} {q b f n n' m : Nat} {c0 c1 c2 : Int} {D D' F : DataW Value} (h : QIs w q b f n m c0 c1 c2 D F) (hg : w.grownBy w' (some b)) (hD : Mp Try.prog w' 9 b n' D') : QIs w' q b f n' m c0 c1 c2 D' F :=
  ⟨h.1, h.2.1, h.2.2.1.grown hg (by have := h.1; have := h.2.1; simp; omega), hD, h.2.2.2.2.grown hg (by have := h.1; simp; omega)⟩
theorem QIs.turnF {w w' : World} {q b f n m m' : Nat} {c0 c1 c2 : Int} {D F F' : DataW Value} (h : QIs w q b f n m c0 c1 c2 D F) (hg : w.grownBy w' (some f)) (hF : Mp Try.prog w' 9 f m' F') : QIs w' q b f n m' c0 c1 c2 D F' :=
  ⟨h.1, h.2.1, h.2.2.1.grown hg (by have := h.2.1; simp; omega), h.2.2.2.1.grown hg (by have := h.1; simp; omega), hF⟩
theorem QIs.cells {w : World} {q b f n m : Nat} {c0 c1 c2 : Int} {D F : DataW Value} (h : QIs w q b f n m c0 c1 c2 D F) :
    w.cell? ⟨q, 0, none⟩ = some (.int .i64 c0) ∧ w.cell? ⟨q, 1, none⟩ = some (.int .i64 c1) ∧ w.cell? ⟨q, 2, none⟩ = some (.int .i64 c2) ∧ w.cell? ⟨q, 3, none⟩ = some (.map (some b)) ∧ w.cell? ⟨q, 4, none⟩ = some (.map (some f)) :=
  ⟨h.2.2.1.cell 0, h.2.2.1.cell 1, h.2.2.1.cell 2, h.2.2.1.cell 3, h.2.2.1.cell 4⟩
theorem below_turn {b B : Nat} {W w w' : World} (h : Below B W w) (hg : w.grownBy w' (some b)) (hB : B ≤ w.heap.size) (hb : B ≤ b) : Below B W w' := below_map h hg hB hb
def NewQ (c0 c1 c2 : Int) (w : World) (e : Ending) (w' : World) : Prop :=
  ∃ q b f : Nat, e = .returned (.tuple #[.pointer (some ⟨q, 0, none⟩), .int .i64 0]) ∧ w.heap.size ≤ b ∧ QIs w' q b f 0 0 c0 c1 c2 (.map []) (.map []) ∧ Below w.heap.size w w'
theorem qnew_any (c0 c1 c2 : Int) (w : World) (h0 : 1 ≤ c0) (h1 : c0 ≤ c1) (h2 : c1 ≤ 1800) (h3 : 1 ≤ c2) (h4 : c2 ≤ 512) : Calls Try.prog 29 #[.agg #[.int .i64 c0, .int .i64 c1, .int .i64 c2]] w (NewQ c0 c1 c2 w) := by
  have hmm := @run_makeMap Try.prog
  go_enter Try.func29, Try.ntmps29
  go_wp2_with fail
  go_ret2
  have hB1 := (Below.refl w.heap.size w).alloc (Nat.le_refl _) (.cells #[.int .i64 c0, .int .i64 c1, .int .i64 c2] 55)
  have hz := World.size_alloc w (.cells #[.int .i64 c0, .int .i64 c1, .int .i64 c2] 55)
  generalize w.alloc (.cells #[.int .i64 c0, .int .i64 c1, .int .i64 c2] 55) = w1 at hB1 hz ⊢
  rw [← hz]
  have k1 := Mp.made w1 Try.prog 9
  have k2 := Mp.made (w1.alloc (.map #[] 0)) Try.prog 9
  have k3 := Bk.new ((w1.alloc (.map #[] 0)).alloc (.map #[] 0)) 157 #[.int .i64 c0, .int .i64 c1, .int .i64 c2, .map (some w1.heap.size), .map (some (w1.heap.size + 1))]
  rw [World.size_alloc] at k2 k3
  rw [World.size_alloc] at k3
  exact ⟨w1.heap.size + 1 + 1, w1.heap.size, w1.heap.size + 1, rfl, by omega, ⟨by omega, by omega, k3, (k1.alloc _).alloc _, k2.alloc _⟩, ((hB1.alloc (by omega) _).alloc (by simp; omega) _).alloc (by simp; omega) _⟩
theorem qright_any (z : Int) (w : World) (h0 : 0 ≤ z) (h1 : z ≤ 4611686018427387904) : Calls Try.prog 62 #[.int .i64 z] w fun e w' => e = .returned (.bool true) ∧ w = w' := by
  go_enter Try.func62, Try.ntmps62
  go_wp2_with fail
  go_ret
  exact ⟨rfl, rfl⟩
def AddQ (q b f n m : Nat) (c0 c1 c2 : Int) (D F : DataW Value) (w : World) (e : Ending) (w' : World) : Prop := e = .returned (.int .i64 0) ∧ QIs w' q b f n m c0 c1 c2 D F ∧ T2 b f w w'
set_option maxHeartbeats 1000000 in
set_option maxRecDepth 100000 in
theorem add_fresh (w : World) (q b f n m : Nat) (c0 c1 c2 : Int) (D F : DataW Value) (h : QIs w q b f n m c0 c1 c2 D F) (s : ByteArray) (hs : nmB s = true) (hsl : s.size ≤ maxLen) (at' : Int) (a0 : 0 ≤ at') (a1 : at' ≤ 4611686018427387904)
    (hno : Maps.has D (.string s.data.toList) = false) (hroom : (Maps.size D : Int) < c2) (hn : n < maxLen) :
    Calls Try.prog 25 #[.pointer (some ⟨q, 0, none⟩), .string s, .int .i64 at'] w (AddQ q b f (n + 1) m c0 c1 c2 (D.put (.string s.data.toList) (.held (itV at' false false))) F w) := by
  have CN := Lib.hid (fun w1 => lname_any s w1 hsl)
  rw [hs] at CN
  have CR := Lib.hid (fun w1 => qright_any at' w1 a0 a1)
  have hkey := keyOf_string_mk Try.underlying9 hsl
  obtain ⟨kl, hkl⟩ : ∃ kl, kl = Lit.string s.data.toList := ⟨_, rfl⟩
  rw [← hkl] at hno hkey ⊢
  have hv := valAt_not hno (.agg #[.int .i64 0, .bool false, .bool false])
  obtain ⟨d0, d1, d2, d3, d4⟩ := h.cells
  have hm := h.2.2.2.1
  have HQ := Lib.hid h
  have HX := Lib.hid hno
  obtain ⟨z, hz⟩ : ∃ z, z = Maps.size D := ⟨_, rfl⟩
  rw [← hz] at hroom
  have HZ := Lib.hid hz
  have HA := Lib.hid (And.intro a0 a1)
  clear hs hsl hkl h hno hz a0 a1 d0 d1 d4
  go_enter Try.func25, Try.ntmps25
  go_wp2_with fail
  refine (CN.out w).mono ?_
  rintro e w' ⟨rfl, rfl⟩
  go_wp2_with fail
  refine (CR.out w).mono ?_
  rintro e w' ⟨rfl, rfl⟩
  go_wp2_with (at_lookup; refine wpl_look_ok rfl _ _ 154 rfl 9 153 strKq Try.underlying154 zeroItm b n D rfl hm _ _ rfl hkey ?_; rw [hv, HX.out])
  have HQ1 := Lib.hid (HQ.out.below ((Below.refl w.heap.size w).alloc (Nat.le_refl _) (.cells #[.int .i64 0, .bool false, .bool false] 153)))
  have hB1 := (Below.refl w.heap.size w).alloc (Nat.le_refl _) (.cells #[.int .i64 0, .bool false, .bool false] 153)
  have kx := Bk.new w 153 #[.int .i64 0, .bool false, .bool false]
  generalize w.alloc (.cells #[.int .i64 0, .bool false, .bool false] 153) = w1 at HQ1 hB1 kx ⊢
  have x0 := kx.cell 0
  have x1 := kx.cell 1
  have x2 := kx.cell 2
  obtain ⟨d0, d1, d2, d3, d4⟩ := HQ1.out.cells
  have hlen : ∀ nq ty, (Builtin.len_ #[154] ty #[.map (some b)]).run Try.prog (w1.drewN nq) = .ok (.int .i64 z) (w1.drewN nq) := fun nq ty => by
    rw [HZ.out]
    exact World.ownsMap.len (HQ1.out.2.2.2.1.drewN nq) Try.underlying154 ty
  go_quiet (fail)
  have HQ2 : Hid (QIs (w1.drewN nq) q b f n m c0 c1 c2 D F) := HQ1
  have hB2 := below_drewN hB1 nq
  have kx2 : Bk (w1.drewN nq) w.heap.size 153 #[.int .i64 0, .bool false, .bool false] := kx
  clear hlen x0 x1 x2 d0 d1 d2 d3 d4 HQ1 hB1 kx hm hv
  have hxq := HQ.out.2.2.1.lt
  have hdh : (w1.drewN nq).heap.size = w1.heap.size := rfl
  generalize w1.drewN nq = w2 at HQ2 hB2 kx2 hdh ⊢
  have y0 := kx2.cell 0
  have y1 := kx2.cell 1
  have y2 := kx2.cell 2
  have z0 := kx2.frozen 0
  have z2 := kx2.frozen 2
  go_wp2_with fail
  have hB3 := (hB2.setCell (p := ⟨w.heap.size, 0, none⟩) (Nat.le_refl _) (.int .i64 at')).setCell (p := ⟨w.heap.size, 2, none⟩) (Nat.le_refl _) (.bool false)
  have kx3 := (kx2.set 0 (.int .i64 at')).set 2 (.bool false)
  have HQ3 := Lib.hid (show QIs ((w2.setCell ⟨w.heap.size, 0, none⟩ (.int .i64 at')).setCell ⟨w.heap.size, 2, none⟩ (.bool false)) q b f n m c0 c1 c2 D F from by
    obtain ⟨i1, i2, i3, i4, i5⟩ := HQ2.out
    have n1 : q ≠ w.heap.size := by omega
    have n2 : b ≠ w.heap.size := by omega
    have n3 : f ≠ w.heap.size := by omega
    exact ⟨i1, i2, (i3.far n1 _).far n1 _, (i4.setCell n2 _).setCell n2 _, (i5.setCell n3 _).setCell n3 _⟩)
  simp at kx3
  generalize (w2.setCell ⟨w.heap.size, 0, none⟩ (.int .i64 at')).setCell ⟨w.heap.size, 2, none⟩ (.bool false) = w3 at hB3 kx3 HQ3 ⊢
  have v0 := kx3.cell 0
  have v1 := kx3.cell 1
  have v2 := kx3.cell 2
  obtain ⟨d0, d1, d2, d3, d4⟩ := HQ3.out.cells
  clear y0 y1 y2 z0 z2 hB2 HQ2 kx2
  go_still_tail 6, (by kernel_rfl)
  change wpList _ _ _ _ _ w3.drew
  have hm3 : Mp Try.prog w3.drew 9 b n D := HQ3.out.2.2.2.1
  go_wp2_with (at_mapUpdate; refine wpl_store_map rfl _ _ _ 154 rfl 9 153 strKq Try.underlying154 b n D rfl hm3 hn _ (.agg #[.int .i64 at', .bool false, .bool false]) _ rfl rfl hkey ?_; intro w4 hm4 hg4 hs4)
  have HG := Lib.hid hg4
  clear hg4 hs4
  go_ret
  have hq3 : QIs w3.drew q b f n m c0 c1 c2 D F := HQ3.out
  have hbl := hm3.lt
  have hb0 := HQ.out.2.2.2.1.lt
  exact ⟨rfl, hq3.turnD HG.out hm4, (T2.of_below hB3.drew).trans (T2.turnD HG.out)⟩
/-- Next where the first item's tick has come. -/
def NextQ (q b f n m : Nat) (c0 c1 c2 : Int) (D F : DataW Value) (atf : List UInt8 → Int) (w : World) (e : Ending) (w' : World) : Prop :=
  ((∀ k, Maps.has D (.string k) = false) ∧ e = .returned (.tuple #[.string ⟨#[]⟩, .bool false]) ∧ QIs w' q b f n m c0 c1 c2 D F ∧ T2 b f w w') ∨
  ∃ k, Maps.has D (.string k) = true ∧ k.length ≤ maxLen ∧ (∀ k', Maps.has D (.string k') = true → atf k ≤ atf k') ∧ e = .returned (.tuple #[.string ⟨k.toArray⟩, .bool true]) ∧
    QIs w' q b f (n + 1) m c0 c1 c2 (D.put (.string k) (.held (itV 0 true false))) F ∧ T2 b f w w'
set_option maxHeartbeats 1000000 in
set_option maxRecDepth 100000 in
theorem next_any (w : World) (q b f n m : Nat) (c0 c1 c2 : Int) (D F : DataW Value) (h : QIs w q b f n m c0 c1 c2 D F) (atf : List UInt8 → Int) (hw : AllWait D atf) (hs : Maps.size D ≤ 1000) (now : Int) (hnow : ∀ k, Maps.has D (.string k) = true → atf k ≤ now) (hn : n < maxLen) :
    Calls Try.prog 21 #[.pointer (some ⟨q, 0, none⟩), .int .i64 now] w (NextQ q b f n m c0 c1 c2 D F atf w) := by
  have CF := Lib.hid (first_any w q b f n (.int .i64 c0) (.int .i64 c1) (.int .i64 c2) D atf h.2.2.1 h.2.2.2.1 hw hs)
  have HQ := Lib.hid h
  have HW := Lib.hid hw
  have HN := Lib.hid hnow
  clear h hw hs hnow
  go_enter Try.func21, Try.ntmps21
  go_wp2_with fail
  refine CF.out.mono ?_
  rintro e w1 ⟨⟨hno, rfl⟩ | ⟨k, hk, hkl, hall, rfl⟩, hB1⟩
  · have HO := Lib.hid hno
    clear hno
    go_wp2_with fail
    go_ret2
    exact .inl ⟨HO.out, rfl, HQ.out.below hB1, T2.of_below hB1⟩
  · have HQ1 := Lib.hid (HQ.out.below hB1)
    have hval := HW.out k hk
    have hle := HN.out k hk
    have HO := Lib.hid (And.intro hk (And.intro hkl hall))
    have hkey : keyOf Try.prog 9 (.string ⟨k.toArray⟩) = some (.string k) := keyOf_string_mk Try.underlying9 (s := ⟨k.toArray⟩) hkl
    have hlk : (Instr.lookup 154 (.map (some b)) (.string ⟨k.toArray⟩) false).run Try.prog w1 = .ok (.agg #[.int .i64 (atf k), .bool false, .bool false]) w1 := by
      rw [HQ1.out.2.2.2.1.run_look strKq Try.underlying154 (zeroItm _) hkey]
      exact congrArg (fun v => Result.ok v _) hval
    have hfd := fun (w0 : World) => itm_at w0 (atf k) false false
    obtain ⟨d0, d1, d2, d3, d4⟩ := HQ1.out.cells
    have hm1 := HQ1.out.2.2.2.1
    clear hk hkl hall hval
    generalize atf k = p at hle hlk hfd
    go_wp2_with (at_mapUpdate; refine wpl_store_map rfl _ _ _ 154 rfl 9 153 strKq Try.underlying154 b n D rfl hm1 hn _ (.agg #[.int .i64 0, .bool true, .bool false]) _ rfl rfl hkey ?_; intro w4 hm4 hg4 hs4)
    have HG := Lib.hid hg4
    clear hg4 hs4
    go_ret2
    have hb0 := HQ.out.2.2.2.1.lt
    have hb1 := hm1.lt
    exact .inr ⟨k, HO.out.1, HO.out.2.1, HO.out.2.2, rfl, HQ1.out.turnD HG.out hm4, (T2.of_below hB1).trans (T2.turnD HG.out)⟩
end Go.Proofs.Ytepihnpagpajeaa
