/-
  Contracts of the library's generic slice functions (slices.Clone, slices.IndexFunc, slices.DeleteFunc) as policy.Keep uses them, and of policy.Keep. Conditions: the lengths named in each.
-/
import Derived.Test.YtalmhnimmhgloaaKeep
import Derived.WalkSpells
import Derived.Laws.StructEq
namespace Go.Proofs.Ytalmhnimmhgloaa
open Go.RowKit Go.Proofs.Mem
set_option linter.unusedVariables false
set_option linter.unusedSimpArgs false
theorem firstI_cases (p : Done → Bool) (xs : List Done) : (firstI p xs = -1 ∧ ∀ y ∈ xs, p y = false) ∨ ∃ k, ∃ h : k < xs.length, firstI p xs = (k : Int) ∧ (∀ y ∈ xs.take k, p y = false) ∧ p xs[k] = true := by
  unfold firstI
  cases e : xs.findIdx? p with
  | none =>
    refine .inl ⟨rfl, fun y hy => ?_⟩
    rw [List.findIdx?_eq_none_iff] at e
    simpa using e y hy
  | some k =>
    rw [List.findIdx?_eq_some_iff_getElem] at e
    obtain ⟨h, h1, h2⟩ := e
    refine .inr ⟨k, h, rfl, fun y hy => ?_, h1⟩
    rw [List.mem_iff_getElem] at hy
    obtain ⟨j, hj, rfl⟩ := hy
    have := h2 j (by simp at hj; omega)
    simpa using this
def kept (now : Int) (xs : List Done) : List Done := xs.filter fun x => !oldB now x
theorem kept_all (now : Int) (xs : List Done) (h : ∀ y ∈ xs, oldB now y = false) : kept now xs = xs := by
  unfold kept
  rw [List.filter_eq_self]
  intro a ha
  rw [h a ha]
  rfl
theorem delete_none (xs : List Done) (v : Value) (now : Int) (B : Nat) (w : World) (hl : xs.length ≤ 100) (h : Sl w 3 v xs.length (xs.flatMap Done.cells)) (hb : B < w.heap.size) (hB : w.cell? ⟨B, 0, none⟩ = some (.int .i64 now)) (hn : 0 ≤ now ∧ now ≤ 4611686018427387904) (h0 : firstI (oldB now) xs = -1) :
    Calls Try.prog 43 #[v, .func (.func 45) #[] #[.pointer (some ⟨B, 0, none⟩)]] w fun e w' => e = .returned v ∧ Below w.heap.size w w' := by
  have C := Lib.hid (fun w1 (e : w1 = w) => indexf_any xs v now B w hl h hb hB hn)
  rw [h0] at C
  clear h0 h hn hB
  go_enter Try.func43, Try.ntmps43
  go_wp2_with fail
  refine (C.out w rfl).mono ?_
  rintro e w1 ⟨rfl, hb1⟩
  go_wp2_with fail
  go_ret
  exact ⟨rfl, hb1⟩
theorem take_set_succ {α : Type} (ys : List α) (x : α) (i : Nat) (h : i < ys.length) : (ys.set i x).take (i + 1) = ys.take i ++ [x] := by
  rw [List.take_succ_eq_append_getElem (by simpa using h), List.take_set, List.set_eq_of_length_le (by simp; omega)]
  simp
theorem drop_set_far {α : Type} (ys : List α) (x : α) (i j : Nat) (h : i < j) : (ys.set i x).drop j = ys.drop j := by
  rw [List.drop_set]
  simp [h]
/-- A round's store. -/
theorem Rw.put3 {w : World} {g : Nat} {t : TypeId} {ys : List Done} {rest : List Value} (h : Rw w g t Done.cells ys rest) (x : Done) (i : Nat) (hi : i < ys.length) :
    Rw (((w.setCell ⟨g, i * 3, none⟩ (.int .i64 x.at')).setCell ⟨g, i * 3 + 1, none⟩ (.int .i64 x.from')).setCell ⟨g, i * 3 + 2, none⟩ (.int .i64 x.to')) g t Done.cells (ys.set i x) rest := by
  have := h.put (s := 3) (fun _ => rfl) x i hi
  simpa [World.setCells, Done.cells] using this
set_option maxHeartbeats 1000000 in
set_option maxRecDepth 100000 in
theorem delete_some (xs : List Done) (g c : Nat) (rest : List Value) (now : Int) (B : Nat) (w : World) (hl : xs.length ≤ 100) (hR : Rw w g 44 Done.cells xs rest) (hc : c * 3 = xs.length * 3 + rest.length) (hb : B < g) (hB : w.cell? ⟨B, 0, none⟩ = some (.int .i64 now)) (hn : 0 ≤ now ∧ now ≤ 4611686018427387904)
    (k0 : Nat) (hk0 : k0 < xs.length) (h0 : firstI (oldB now) xs = (k0 : Int)) (h1 : ∀ y ∈ xs.take k0, oldB now y = false) (h2 : oldB now xs[k0] = true) :
    Calls Try.prog 43 #[.slice (some ⟨g, 0, none⟩) xs.length c, .func (.func 45) #[] #[.pointer (some ⟨B, 0, none⟩)]] w fun e w' => ∃ rest', e = .returned (.slice (some ⟨g, 0, none⟩) (kept now xs).length c) ∧ Rw w' g 44 Done.cells (kept now xs) rest' ∧ Below g w w' ∧ (kept now xs).length * 3 + rest'.length = c * 3 := by
  have hg := hR.lt
  have hS : Sl w 3 (.slice (some ⟨g, 0, none⟩) xs.length c) xs.length (xs.flatMap Done.cells) := by
    refine ⟨_, _, rfl, by omega, (fun h => by cases h), by rw [flat_len' (s := 3) Done.cells (fun _ => rfl)], fun _ => ⟨_, rfl, hg, fun j u hu => ?_⟩⟩
    rw [add_lit, Nat.zero_add, hR.bk.cell, List.getElem?_toArray, List.getElem?_append_left]
    · exact hu
    · rcases Nat.lt_or_ge j (xs.flatMap Done.cells).length with h | h
      · exact h
      · rw [List.getElem?_eq_none h] at hu; cases hu
  have C := Lib.hid (indexf_any xs _ now B w hl hS (by omega) hB hn)
  rw [h0] at C
  have hst : (xs.take k0) = (xs.take (k0 + 1)).filter fun x => !oldB now x := by
    rw [List.take_succ_eq_append_getElem hk0, List.filter_append]
    have := kept_all now (xs.take k0) h1
    unfold kept at this
    rw [this]
    simp [h2]
  have HST := Lib.hid hst
  clear hst h0 h1 h2 hS
  have hci : ((xs.length : Nat) : Int) ≤ c := by omega
  go_enter Try.func43, Try.ntmps43
  go_wp2_with fail
  refine C.out.mono ?_
  rintro e w0 ⟨rfl, hb0⟩
  have hk0' : (((k0 : Nat) : Int) == -1) = false := by simp
  go_wp2_with fail
  go_loopw [5, 6] (fun i j wr => ∃ (i' j' : Nat) (ys : List Done), i' + 1 ≤ j' ∧ j' ≤ xs.length ∧ i = .int .i64 i' ∧ j = .int .i64 j' ∧ Hid (ys.length = xs.length) ∧ Hid (ys.take i' = (xs.take j').filter fun x => !oldB now x) ∧ Hid (ys.drop j' = xs.drop j') ∧ Rw wr g 44 Done.cells ys rest ∧ Below g w wr) (fun i j wr => xs.length - (intOf j).toNat)
  case atStart => exact ⟨k0, k0 + 1, xs, by omega, by omega, rfl, by go_num, Lib.hid rfl, HST, Lib.hid rfl, hR.below hb0, hb0.mono (by omega)⟩
  case round =>
    obtain ⟨i, j, ys, hij, hj, rfl, rfl, hylen, htake, hdrop, hRw, hB'⟩ := hrel
    have hgr := hRw.lt
    by_cases hlt : j < xs.length
    · have hyl := hylen.out
      have hjy : j < ys.length := by omega
      have hyj : ys[j] = xs[j] := by
        have := congrArg (fun l => l[0]?) hdrop.out
        simp only [List.getElem?_drop, Nat.add_zero] at this
        rw [List.getElem?_eq_getElem hjy, List.getElem?_eq_getElem hlt] at this
        simpa using this
      have a0 : wr.cell? ⟨g, j * 3, none⟩ = some (.int .i64 xs[j].at') := by rw [← hyj]; exact hRw.cell (s := 3) (fun _ => rfl) j 0 hjy (by omega)
      have a1 : wr.cell? ⟨g, j * 3 + 1, none⟩ = some (.int .i64 xs[j].from') := by rw [← hyj]; exact hRw.cell (s := 3) (fun _ => rfl) j 1 hjy (by omega)
      have a2 : wr.cell? ⟨g, j * 3 + 2, none⟩ = some (.int .i64 xs[j].to') := by rw [← hyj]; exact hRw.cell (s := 3) (fun _ => rfl) j 2 hjy (by omega)
      have hiy : i < ys.length := by omega
      have b0 : wr.cell? ⟨g, i * 3, none⟩ = some (.int .i64 ys[i].at') := hRw.cell (s := 3) (fun _ => rfl) i 0 hiy (by omega)
      have b1 : wr.cell? ⟨g, i * 3 + 1, none⟩ = some (.int .i64 ys[i].from') := hRw.cell (s := 3) (fun _ => rfl) i 1 hiy (by omega)
      have b2 : wr.cell? ⟨g, i * 3 + 2, none⟩ = some (.int .i64 ys[i].to') := hRw.cell (s := 3) (fun _ => rfl) i 2 hiy (by omega)
      have f0 := hRw.frozen (i * 3)
      have f1 := hRw.frozen (i * 3 + 1)
      have f2 := hRw.frozen (i * 3 + 2)
      generalize ys[i] = z at b0 b1 b2
      obtain ⟨q, hq⟩ : ∃ q, q = oldB now xs[j] := ⟨_, rfl⟩
      have C1 : Hid (∀ w1, Below g w w1 → g ≤ w1.heap.size → Calls Try.prog 45 #[.agg #[.int .i64 xs[j].at', .int .i64 xs[j].from', .int .i64 xs[j].to'], .pointer (some ⟨B, 0, none⟩)] w1 fun e w' => e = .returned (.bool q) ∧ Below w1.heap.size w1 w') :=
        Lib.hid (fun w1 h1 h2 => by rw [hq]; exact keepf_any xs[j] now B w1 (by omega) ((h1.cell (p := ⟨B, 0, none⟩) hb).trans hB) hn)
      have hfil : (xs.take (j + 1)).filter (fun x => !oldB now x) = (xs.take j).filter (fun x => !oldB now x) ++ (if q then [] else [xs[j]]) := by
        rw [List.take_succ_eq_append_getElem hlt, List.filter_append, hq]
        cases h : oldB now xs[j] <;> simp [h]
      have HF := Lib.hid hfil
      have hdr : ys.drop (j + 1) = xs.drop (j + 1) := by
        have := congrArg (List.drop 1) hdrop.out
        simpa [List.drop_drop] using this
      have HD := Lib.hid hdr
      clear hfil hdr hdrop hq hyj hn hB
      have HX := Lib.hid (rfl : xs[j] = xs[j])
      obtain ⟨x, hx⟩ : ∃ x, x = xs[j] := ⟨_, rfl⟩
      rw [← hx] at C1 HF a0 a1 a2
      clear hx HX
      have P := fun (w1 : World) (h : Rw w1 g 44 Done.cells ys rest) => Lib.hid (Rw.put3 h x i hiy)
      have HY := Lib.hid hyl
      clear hyl
      cases q
      · go_wp2_with fail
        refine (C1.out _ (hB'.alloc (by omega) _) (by simp; omega)).mono ?_
        rintro e w1 ⟨rfl, hb1⟩
        have hA : Below wr.heap.size wr w1 := ((Below.refl _ _).alloc (Nat.le_refl _) _).trans (hb1.mono (by simp))
        have hR1 := hRw.below hA
        have v0 := ((Bk.new wr 44 #[.int .i64 x.at', .int .i64 x.from', .int .i64 x.to']).below' hb1)
        have v00 := v0.cell 0
        have v01 := v0.cell 1
        have v02 := v0.cell 2
        have hc1 : ∀ o, w1.cell? ⟨g, o, none⟩ = wr.cell? ⟨g, o, none⟩ := fun o => hA.cell (p := ⟨g, o, none⟩) hgr
        have hf1 : ∀ o, w1.frozen? ⟨g, o, none⟩ = wr.frozen? ⟨g, o, none⟩ := fun o => hA.frozen (p := ⟨g, o, none⟩) hgr
        have P1 := P w1 hR1
        have hBw1 : Below g w w1 := hB'.trans (hA.mono (by omega))
        clear v0 P hR1
        go_wp2_with fail
        exact ⟨⟨i + 1, j + 1, ys.set i x, by omega, by omega, by go_num, by go_num, Lib.hid (by simp [HY.out]), Lib.hid (by rw [take_set_succ _ _ _ hiy, HF.out, htake.out]; rfl), Lib.hid (by rw [drop_set_far _ _ _ _ (by omega)]; exact HD.out), P1.out, ((hBw1.setCell (p := ⟨g, _, none⟩) (Nat.le_refl _) _).setCell (p := ⟨g, _, none⟩) (Nat.le_refl _) _).setCell (p := ⟨g, _, none⟩) (Nat.le_refl _) _⟩, by simp [intOf]; omega⟩
      · go_wp2_with fail
        refine (C1.out _ (hB'.alloc (by omega) _) (by simp; omega)).mono ?_
        rintro e w1 ⟨rfl, hb1⟩
        go_wp2_with fail
        have hA : Below wr.heap.size wr w1 := ((Below.refl _ _).alloc (Nat.le_refl _) _).trans (hb1.mono (by simp))
        exact ⟨⟨i, j + 1, ys, by omega, by omega, rfl, by go_num, HY, Lib.hid (by rw [HF.out, htake.out]; simp), HD, hRw.below hA, hB'.trans (hA.mono (by omega))⟩, by simp [intOf]; omega⟩
    · have hy := hylen.out
      have hin : i < xs.length := by omega
      have hK : ys.take i = kept now xs := by
        rw [htake.out, List.take_of_length_le (by omega)]
        rfl
      have HK := Lib.hid hK
      have hone : ∀ v ∈ (Builtin.zeroCells (Value.agg #[.int .i64 0, .int .i64 0, .int .i64 0]).cells (xs.length - i)).toList, v.oneCell' = true := zeroCells_one _ _ (by decide) (by decide)
      have hzl : (Builtin.zeroCells (Value.agg #[.int .i64 0, .int .i64 0, .int .i64 0]).cells (xs.length - i)).toList.length = (xs.length - i) * 3 := zeroCells_len _ _
      obtain ⟨zs, hzs⟩ : ∃ zs, (Builtin.zeroCells (Value.agg #[.int .i64 0, .int .i64 0, .int .i64 0]).cells (xs.length - i)).toList = zs := ⟨_, rfl⟩
      rw [hzs] at hone hzl
      have hclr : ∀ ty, (Builtin.clear_ #[41] ty #[.slice (some ⟨g, i * 3, none⟩) (xs.length - i) (c - i)]).run Try.prog wr = .ok (.tuple #[]) (wr.setCells g (i * 3) zs) := fun ty => by
        have := run_clear_cells (P := Try.prog) wr 41 44 ty _ Try.underlying41 Try.zeroValue44 g (i * 3) (xs.length - i) (c - i) zs hzs hone
          (fun j hj => hRw.some (s := 3) (fun _ => rfl) _ (by omega)) (fun j hj => hRw.frozen _)
        rwa [if_neg (by omega)] at this
      have hR2 := hRw.clear (s := 3) (fun _ => rfl) i (by omega) zs
      rw [hK] at hR2
      have hrl : (setL ((ys.drop i).flatMap Done.cells ++ rest) 0 zs).length = (xs.length - i) * 3 + rest.length := by
        rw [setL_len, List.length_append, flat_len' (s := 3) Done.cells (fun _ => rfl), List.length_drop, hy]
      have hB2 := below_setCells (B := g) zs (i * 3) hB' (Nat.le_refl _)
      have hkl : (kept now xs).length = i := by rw [← hK, List.length_take]; omega
      have HL := Lib.hid hkl
      generalize setL ((ys.drop i).flatMap Done.cells ++ rest) 0 zs = rest' at hR2 hrl
      generalize wr.setCells g (i * 3) zs = W2 at hclr hR2 hB2
      clear hK htake hdrop hn hB hR hy hzs hone hzl hkl
      go_wp2_with fail
      go_ret
      exact ⟨rest', by rw [HL.out]; rfl, hR2, hB2, by rw [HL.out]; omega⟩
end Go.Proofs.Ytalmhnimmhgloaa
