/-
  The walks of policy.Keep and of Right of package trimtablaw22, at any past.
-/
import Derived.Test.YtalmhnimmhgloaaKeep2
namespace Go.Proofs.Ytalmhnimmhgloaa
open Go.RowKit Go.Proofs.Mem
set_option linter.unusedVariables false
set_option linter.unusedSimpArgs false
def lastN (l : List Done) : List Done := l.drop (l.length - 32)
theorem cells_one (l : List Done) : ∀ u ∈ l.flatMap Done.cells, u.oneCell' = true := by
  intro u hu
  obtain ⟨x, _, hx⟩ := List.mem_flatMap.1 hu
  simp [Done.cells] at hx
  rcases hx with rfl | rfl | rfl <;> rfl
theorem drop_flat {α : Type} {s : Nat} (f : α → List Value) (hf : ∀ x, (f x).length = s) : ∀ (xs : List α) (k : Nat), (xs.flatMap f).drop (k * s) = (xs.drop k).flatMap f
  | [], k => by simp
  | x :: xs, 0 => by simp
  | x :: xs, k + 1 => by
    rw [List.flatMap_cons, List.drop_succ_cons, Nat.succ_mul, Nat.add_comm, ← List.drop_drop, List.drop_left' (hf x)]
    exact drop_flat f hf xs k
theorem of_own_some {base : Nat} {e : TypeId} {w : World} {n : Nat} {v : Value} {xs : List Done} (h : w.ownsRow base e 3 v n (xs.flatMap Done.cells)) (hn : 0 < n) : ∃ g c rest, v = .slice (some ⟨g, 0, none⟩) n c ∧ base ≤ g ∧ Rw w g e Done.cells xs rest ∧ c * 3 = n * 3 + rest.length := by
  obtain ⟨hl, h2⟩ := h
  rcases h2 with ⟨rfl, h2⟩ | ⟨g, cap, cur, rfl, hb, hg, hnc, hcm, hcs, htake⟩
  · rw [h2] at hl; simp at hl; omega
  · refine ⟨g, cap, cur.toList.drop (n * 3), rfl, hb, ?_, ?_⟩
    · unfold Rw Bk
      rw [← htake, List.take_append_drop]
      exact hg
    · have := Nat.mul_le_mul_right 3 hnc
      rw [List.length_drop, Array.length_toList, hcs]
      omega
/-- What DeleteFunc hands back, whatever it struck. -/
theorem delete_any (xs : List Done) (v : Value) (base : Nat) (now : Int) (B : Nat) (w : World) (hl : xs.length ≤ 100) (h : w.ownsRow base 44 3 v xs.length (xs.flatMap Done.cells)) (hb : B < base) (hbs : base ≤ w.heap.size) (hbb : B < w.heap.size) (hB : w.cell? ⟨B, 0, none⟩ = some (.int .i64 now)) (hn : 0 ≤ now ∧ now ≤ 4611686018427387904) :
    Calls Try.prog 43 #[v, .func (.func 45) #[] #[.pointer (some ⟨B, 0, none⟩)]] w fun e w' => ∃ A c, e = .returned (.slice A (kept now xs).length c) ∧ Sl w' 3 (.slice A (kept now xs).length c) (kept now xs).length ((kept now xs).flatMap Done.cells) ∧ Below base w w' ∧ w.heap.size ≤ w'.heap.size := by
  rcases firstI_cases (oldB now) xs with ⟨h0, h1⟩ | ⟨k0, hk0, h0, h1, h2⟩
  · refine (delete_none xs v now B w hl (Sl.of_own h) hbb hB hn h0).mono ?_
    rintro e w' ⟨rfl, hb'⟩
    rw [kept_all now xs h1]
    have hS := (Sl.of_own h).below hb'
    obtain ⟨A, c, rfl, _⟩ := id hS
    exact ⟨A, c, rfl, hS, hb'.mono hbs, hb'.size⟩
  · obtain ⟨g, c, rest, rfl, hg, hR, hc⟩ := of_own_some h (by omega)
    refine (delete_some xs g c rest now B w hl hR hc (by omega) hB hn k0 hk0 h0 h1 h2).mono ?_
    rintro e w' ⟨rest', rfl, hR', hb', hlen⟩
    have hlt : g < w.heap.size := hR.lt
    have hlt' : g < w'.heap.size := hR'.lt
    refine ⟨_, c, rfl, ?_, hb'.mono hg, ?_⟩
    · refine ⟨_, _, rfl, by omega, (fun h => by cases h), by rw [flat_len' (s := 3) Done.cells (fun _ => rfl)], fun _ => ⟨_, rfl, hlt', fun j u hu => ?_⟩⟩
      rw [add_lit, Nat.zero_add, hR'.bk.cell, List.getElem?_toArray, List.getElem?_append_left]
      · exact hu
      · rcases Nat.lt_or_ge j ((kept now xs).flatMap Done.cells).length with h | h
        · exact h
        · rw [List.getElem?_eq_none h] at hu; cases hu
    · exact hb'.size
theorem kept_len (now : Int) (xs : List Done) : (kept now xs).length ≤ xs.length := List.length_filter_le _ _
set_option maxRecDepth 100000 in
theorem keep_any (xs : List Done) (v : Value) (now : Int) (w : World) (hl : xs.length ≤ 100) (h : Sl w 3 v xs.length (xs.flatMap Done.cells)) (hn : 0 ≤ now ∧ now ≤ 4611686018427387904) :
    Calls Try.prog 23 #[v, .int .i64 now] w fun e w' => ∃ v', e = .returned v' ∧ w'.ownsRow w.heap.size 44 3 v' (lastN (kept now xs)).length ((lastN (kept now xs)).flatMap Done.cells) ∧ Below w.heap.size w w' := by
  have hbox := Bk.new w 2 #[.int .i64 now]
  have C1 := Lib.hid (clone_scaled xs.length (xs.flatMap Done.cells) v (w.alloc (.cells #[.int .i64 now] 2)) (h.alloc _) (cells_one xs) (by omega))
  have C2 := Lib.hid (fun (v' : Value) (w1 : World) (h1 : w1.ownsRow (w.heap.size + 1) 44 3 v' xs.length (xs.flatMap Done.cells)) (h2 : w.heap.size + 1 ≤ w1.heap.size) (h3 : w1.cell? ⟨w.heap.size, 0, none⟩ = some (.int .i64 now)) => delete_any xs v' (w.heap.size + 1) now w.heap.size w1 hl h1 (by omega) h2 (by omega) h3 hn)
  have hkl := kept_len now xs
  clear h hn
  obtain ⟨K, hK⟩ : ∃ K, K = kept now xs := ⟨_, rfl⟩
  rw [← hK] at C2 hkl ⊢
  clear hK
  go_enter Try.func23, Try.ntmps23
  go_wp2_with fail
  refine C1.out.mono ?_
  rintro e w1 ⟨v1, rfl, hown1, hb1, _⟩
  rw [World.size_alloc] at hown1 hb1
  have hbx := (hbox.below' (by rw [World.size_alloc]; exact hb1)).cell 0
  have hs1 := hb1.size
  rw [World.size_alloc] at hs1
  go_wp2_with fail
  refine (C2.out v1 w1 hown1 hs1 hbx).mono ?_
  rintro e w2 ⟨A, c, rfl, hS, hb2, hs2⟩
  have hBw : Below w.heap.size w w2 := ((Below.refl _ _).alloc (Nat.le_refl _) _).trans ((hb1.mono (Nat.le_succ _)).trans (hb2.mono (Nat.le_succ _)))
  have hclone := fun (m : Nat) (ys : List Done) (v : Value) (h : Sl w2 3 v m (ys.flatMap Done.cells)) (hm : m ≤ 100) => Lib.hid (clone_scaled m (ys.flatMap Done.cells) v w2 h (cells_one ys) (by omega))
  obtain ⟨m, hm⟩ : ∃ m, m = K.length := ⟨_, rfl⟩
  obtain ⟨k, hk⟩ : ∃ k, (max 0 ((m : Int) - 32)).toNat = k := ⟨_, rfl⟩
  have hkm : k = m - 32 := by omega
  have HL : Hid (lastN K = K.drop k ∧ (K.drop k).length = m - k) := Lib.hid ⟨by rw [hkm, hm]; rfl, by rw [List.length_drop, hm]⟩
  have hSd := hS.drop (k := k) (by omega)
  rw [drop_flat (s := 3) Done.cells (fun _ => rfl), ← hm] at hSd
  rw [← hm] at hkl ⊢
  generalize K.drop k = L at HL hSd
  have hk1 : k ≤ m := by omega
  clear hS hm hkm C1 C2 hown1
  by_cases hck : c = k
  · rw [if_pos hck, show c - k = 0 by omega] at hSd
    have C3 := hclone _ _ _ hSd (by omega)
    clear hclone hSd
    go_wp2_with fail
    refine C3.out.mono ?_
    rintro e w3 ⟨v3, rfl, hown3, hb3, _⟩
    go_wp2_with fail
    go_ret
    exact ⟨v3, rfl, by rw [HL.out.1, HL.out.2]; exact own_mono hown3 hBw.size, hBw.trans (hb3.mono hBw.size)⟩
  · rw [if_neg hck] at hSd
    have C3 := hclone _ _ _ hSd (by omega)
    clear hclone hSd
    go_wp2_with fail
    refine C3.out.mono ?_
    rintro e w3 ⟨v3, rfl, hown3, hb3, _⟩
    go_wp2_with fail
    go_ret
    exact ⟨v3, rfl, by rw [HL.out.1, HL.out.2]; exact own_mono hown3 hBw.size, hBw.trans (hb3.mono hBw.size)⟩
end Go.Proofs.Ytalmhnimmhgloaa
