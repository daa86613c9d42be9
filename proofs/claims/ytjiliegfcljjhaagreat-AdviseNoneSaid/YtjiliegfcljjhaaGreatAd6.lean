/-
  An adviser in memory; the walks of advise.New, of, with.
-/
import Derived.Test.YtjiliegfcljjhaaGreatAd1
import Derived.Test.YtjiliegfcljjhaaGreatMaps
import Derived.Test.YtjiliegfcljjhaaGreatTail
import Derived.Test.YtjiliegfcljjhaaGreatBig
namespace Go.Proofs.YtjiliegfcljjhaaGreat
open Go.RowKit Go.Proofs.Mem
open Go.Maps (Keyed string_keyed)
open Go.WideMaps (keyOf_string_mk)
set_option linter.unusedVariables false
set_option linter.unusedSimpArgs false
theorem strKA : Keyed Tryz.prog 9 := string_keyed Tryz.underlying9
theorem underAd : Tryz.prog.underlying 79 = some (.map 9 88) := Tryz.underlying79
theorem zeroAd (w : World) : (zeroValue 88).run Tryz.prog w = .ok (.agg #[.pointer none, .pointer none]) w := by kernel_rfl
/-- An adviser at block a. -/
def AdIs (w : World) (a b n : Nat) (D : DataW Value) (F G M H mg ls gr : Nat) : Prop :=
  b < a ∧ Bk w a 81 #[.int .i64 F, .int .i64 G, .int .i64 M, .int .i64 H, .int .i64 mg, .int .i64 ls, .int .i64 gr, .map (some b)] ∧ Mp Tryz.prog w 9 b n D
theorem AdIs.below {w w' : World} {a b n : Nat} {D : DataW Value} {F G M H mg ls gr : Nat} (h : AdIs w a b n D F G M H mg ls gr) (hb : Below w.heap.size w w') : AdIs w' a b n D F G M H mg ls gr := ⟨h.1, h.2.1.below' hb, h.2.2.below hb⟩
def AdNew (F G M H mg ls gr : Nat) (w : World) (e : Ending) (w' : World) : Prop := ∃ a b, e = .returned (.tuple #[.pointer (some ⟨a, 0, none⟩), .int .i64 0]) ∧ w.heap.size ≤ b ∧ AdIs w' a b 0 (.map []) F G M H mg ls gr ∧ Below w.heap.size w w'
set_option maxHeartbeats 1000000 in
set_option maxRecDepth 100000 in
theorem advise_new (F G M H mg ls gr : Nat) (w : World) (h : rulesB F G M H = true) (h1 : mg ≤ 4000) (h2 : 1 ≤ ls) (h3 : ls ≤ gr) (h4 : gr ≤ 9007199254740992) :
    Calls Tryz.prog 12 #[.agg #[.int .i64 F, .int .i64 G, .int .i64 M, .int .i64 H, .int .i64 mg, .int .i64 ls, .int .i64 gr]] w (AdNew F G M H mg ls gr w) := by
  have hmm := @run_makeMap Tryz.prog
  have CN := Lib.hid (fun w1 => new_any F G M H w1 h)
  have g0 : ¬ (mg : Int) < 0 := by omega
  have g1 : (mg : Int) ≤ 4000 := by omega
  have g2 : (1 : Int) ≤ ls := by omega
  have g3 : (ls : Int) ≤ gr := by omega
  have g4 : (gr : Int) ≤ 9007199254740992 := by omega
  clear h h1 h2 h3 h4
  have k1 := Bk.new w 68 #[.int .i64 F, .int .i64 G, .int .i64 M, .int .i64 H, .int .i64 mg, .int .i64 ls, .int .i64 gr]
  have B1 := below_al w (.cells #[.int .i64 F, .int .i64 G, .int .i64 M, .int .i64 H, .int .i64 mg, .int .i64 ls, .int .i64 gr] 68)
  go_enter Tryz.func12, Tryz.ntmps12
  go_wp2_with fail
  generalize hq : w.heap.size = q at k1 ⊢
  have HQ := Lib.hid hq
  clear hq
  generalize w.alloc (.cells #[.int .i64 F, .int .i64 G, .int .i64 M, .int .i64 H, .int .i64 mg, .int .i64 ls, .int .i64 gr] 68) = w1 at B1 k1 ⊢
  refine (CN.out w1).mono ?_
  rintro e w2 ⟨c, rfl, hc, hC, b2⟩
  have B2 := below_tr B1 b2
  have k2 := k1.below' b2
  clear b2 B1 k1 hC hc
  have c0 := k2.cell 0
  have c1 := k2.cell 1
  have c2 := k2.cell 2
  have c3 := k2.cell 3
  have c4 := k2.cell 4
  have c5 := k2.cell 5
  have c6 := k2.cell 6
  go_wp2_with fail
  go_ret2
  have e1 := Mp.made w2 Tryz.prog 9
  have e2 := Bk.new (w2.alloc (.map #[] 0)) 81 #[.int .i64 F, .int .i64 G, .int .i64 M, .int .i64 H, .int .i64 mg, .int .i64 ls, .int .i64 gr, .map (some w2.heap.size)]
  simp only [World.size_alloc] at e1 e2
  exact ⟨_, w2.heap.size, rfl, B2.size, ⟨by omega, e2, e1.alloc _⟩, below_tr (below_tr B2 (below_al _ _)) (below_al _ _)⟩
/-- What the call owns stays owned where its block stays. -/
theorem own_blockA {w w' : World} {base : Nat} {e : TypeId} {size n : Nat} {v : Value} {xs : List Value} (h : w.ownsRow base e size v n xs) (hb : ∀ g, v.ownBlock = some g → w'.heap[g]? = w.heap[g]?) : w'.ownsRow base e size v n xs := by
  obtain ⟨hl, h2⟩ := h
  refine ⟨hl, ?_⟩
  rcases h2 with h2 | ⟨g, cap, cur, hv, hg, hh, r⟩
  · exact .inl h2
  · exact .inr ⟨g, cap, cur, hv, hg, (hb g (by rw [hv]; rfl)).trans hh, r⟩
/-- The key of an owner. -/
def kO (s : ByteArray) : Lit := .string s.data.toList
def OfNew (a b n : Nat) (D : DataW Value) (F G M H mg ls gr : Nat) (s : ByteArray) (w : World) (e : Ending) (w' : World) : Prop :=
  ∃ c1 c2, e = .returned (.agg #[.pointer (some ⟨c1 + 1, 0, none⟩), .pointer (some ⟨c2 + 1, 0, none⟩)]) ∧ w.heap.size ≤ c1 ∧ c1 + 1 < c2 ∧
    AdIs w' a b (n + 1) (D.put (kO s) (.held (.agg #[.pointer (some ⟨c1 + 1, 0, none⟩), .pointer (some ⟨c2 + 1, 0, none⟩)]))) F G M H mg ls gr ∧ Ch w' c1 F G M H (List.replicate M 0) 0 false ∧ Ch w' c2 F G M H (List.replicate M 0) 0 false ∧ w.grownBy w' (some b)
set_option maxHeartbeats 1000000 in
set_option maxRecDepth 100000 in
theorem of_new (w : World) (a b n : Nat) (D : DataW Value) (F G M H mg ls gr : Nat) (h : AdIs w a b n D F G M H mg ls gr) (hr : rulesB F G M H = true) (hn : n < maxLen) (s : ByteArray) (hs : s.size ≤ maxLen) (hh : Maps.has D (kO s) = false) :
    Calls Tryz.prog 22 #[.pointer (some ⟨a, 0, none⟩), .string s] w (OfNew a b n D F G M H mg ls gr s w) := by
  have hkey := keyOf_string_mk Tryz.underlying9 hs
  have hv := valAt_not hh (.agg #[.pointer none, .pointer none])
  have CN := Lib.hid (fun w1 => new_any F G M H w1 hr)
  have HS := Lib.hid h
  have hm1 := h.2.2.alloc (.cells #[.pointer none, .pointer none] 88)
  have hlk := hm1.run_look_ok strKA underAd (zeroAd _) hkey
  rw [show valAt D (Lit.string s.data.toList) (.agg #[.pointer none, .pointer none]) = _ from hv, show Maps.has D (Lit.string s.data.toList) = false from hh] at hlk
  have d7 := (h.2.1.alloc (.cells #[.pointer none, .pointer none] 88)).cell 7
  have kk := (h.2.1.alloc (.cells #[.pointer none, .pointer none] 88)).alloc (.cells #[.pointer none, .pointer none] 88)
  have e0 := kk.cell 0
  have e1 := kk.cell 1
  have e2 := kk.cell 2
  have e3 := kk.cell 3
  have B0 := below_tr (below_al w (.cells #[.pointer none, .pointer none] 88)) (below_al _ (.cells #[.pointer none, .pointer none] 88))
  have k4 := (Bk.new w 88 #[.pointer none, .pointer none]).alloc (.cells #[.pointer none, .pointer none] 88)
  have k5 := Bk.new (w.alloc (.cells #[.pointer none, .pointer none] 88)) 88 #[.pointer none, .pointer none]
  rw [World.size_alloc] at k5
  clear h hr
  go_enter Tryz.func22, Tryz.ntmps22
  go_wp2_with fail
  have HA1 := Lib.hid (HS.out.below B0)
  obtain ⟨q, hq⟩ : ∃ q, q = w.heap.size := ⟨_, rfl⟩
  rw [← hq] at k4 k5 ⊢
  have HQ := Lib.hid hq
  generalize (w.alloc (.cells #[.pointer none, .pointer none] 88)).alloc (.cells #[.pointer none, .pointer none] 88) = w1 at B0 k4 k5 HA1 ⊢
  clear hlk d7 e0 e1 e2 e3 kk hm1 hq
  refine (CN.out w1).mono ?_
  rintro e w2 ⟨c1, rfl, hc1, hC1, b2⟩
  have f5 := (k5.below' b2).frozen 0
  have c5 := (k5.below' b2).cell 0
  have k52 := (k5.below' b2).set 0 (.pointer (some ⟨c1 + 1, 0, none⟩))
  have hql : q + 1 < w1.heap.size := k5.lt
  have k42 := (k4.below' b2).far (p := ⟨q + 1, 0, none⟩) (by show q ≠ q + 1; omega) (.pointer (some ⟨c1 + 1, 0, none⟩))
  have HA2 := Lib.hid (show AdIs (w2.setCell ⟨q + 1, 0, none⟩ (.pointer (some ⟨c1 + 1, 0, none⟩))) a b n D F G M H mg ls gr from by
    obtain ⟨i1, i2, i3⟩ := HA1.out.below b2
    have hqn := HQ.out
    have := HS.out.2.1.lt
    have := HS.out.2.2.lt
    exact ⟨i1, i2.far (by simp; omega) _, i3.setCell (by simp; omega) _⟩)
  have HC1 := Lib.hid (show Ch (w2.setCell ⟨q + 1, 0, none⟩ (.pointer (some ⟨c1 + 1, 0, none⟩))) c1 F G M H (List.replicate M 0) 0 false from by
    obtain ⟨ev, i1, i2, i3, i4⟩ := hC1
    exact ⟨ev, i1.far (by simp; omega) _, i2.far (by simp; omega) _, i3, own_blockA i4 fun g hg => Below.heap_setCell _ _ _ _ (by have := (i4.lt g hg).1; simp; omega)⟩)
  have B2 : Below w.heap.size w (w2.setCell ⟨q + 1, 0, none⟩ (.pointer (some ⟨c1 + 1, 0, none⟩))) := (below_tr B0 b2).setCell (p := ⟨q + 1, 0, none⟩) (by have := HQ.out; show w.heap.size ≤ q + 1; omega) _
  have hc1l := hC1.lt
  have hc2l : c1 + 1 < (w2.setCell ⟨q + 1, 0, none⟩ (.pointer (some ⟨c1 + 1, 0, none⟩))).heap.size := by rw [World.size_setCell]; exact hc1l
  simp at k52
  clear k4 k5 b2 B0 HA1 hC1 hc1l
  have e0 := HA2.out.2.1.cell 0
  have e1 := HA2.out.2.1.cell 1
  have e2 := HA2.out.2.1.cell 2
  have e3 := HA2.out.2.1.cell 3
  go_wp2_with fail
  generalize w2.setCell ⟨q + 1, 0, none⟩ (.pointer (some ⟨c1 + 1, 0, none⟩)) = w3 at k52 k42 HA2 HC1 B2 hc2l e0 e1 e2 e3 ⊢
  clear f5 c5 e0 e1 e2 e3 w2
  refine (CN.out w3).mono ?_
  rintro e w4 ⟨c2, rfl, hc2, hC2, b4⟩
  have f5 := (k52.below' b4).frozen 1
  have c5 := (k52.below' b4).cell 1
  have k54 := (k52.below' b4).set 1 (.pointer (some ⟨c2 + 1, 0, none⟩))
  have k44 := (k42.below' b4).far (p := ⟨q + 1, 1, none⟩) (by show q ≠ q + 1; omega) (.pointer (some ⟨c2 + 1, 0, none⟩))
  simp at k54
  have hc13 : c1 + 1 < w3.heap.size := hc2l
  have hq1 := hql
  have HA4 := Lib.hid (show AdIs (w4.setCell ⟨q + 1, 1, none⟩ (.pointer (some ⟨c2 + 1, 0, none⟩))) a b n D F G M H mg ls gr from by
    obtain ⟨i1, i2, i3⟩ := HA2.out.below b4
    have hqn := HQ.out
    have := HS.out.2.1.lt
    have := HS.out.2.2.lt
    exact ⟨i1, i2.far (by simp; omega) _, i3.setCell (by simp; omega) _⟩)
  have HC4 := Lib.hid (show Ch (w4.setCell ⟨q + 1, 1, none⟩ (.pointer (some ⟨c2 + 1, 0, none⟩))) c1 F G M H (List.replicate M 0) 0 false ∧ Ch (w4.setCell ⟨q + 1, 1, none⟩ (.pointer (some ⟨c2 + 1, 0, none⟩))) c2 F G M H (List.replicate M 0) 0 false from by
    constructor
    · obtain ⟨ev, i1, i2, i3, i4⟩ := HC1.out.below b4
      exact ⟨ev, i1.far (by simp; omega) _, i2.far (by simp; omega) _, i3, own_blockA i4 fun g hg => Below.heap_setCell _ _ _ _ (by have := (i4.lt g hg).1; simp; omega)⟩
    · obtain ⟨ev, i1, i2, i3, i4⟩ := hC2
      exact ⟨ev, i1.far (by simp; omega) _, i2.far (by simp; omega) _, i3, own_blockA i4 fun g hg => Below.heap_setCell _ _ _ _ (by have := (i4.lt g hg).1; simp; omega)⟩)
  have B4 : Below w.heap.size w (w4.setCell ⟨q + 1, 1, none⟩ (.pointer (some ⟨c2 + 1, 0, none⟩))) := (below_tr B2 b4).setCell (p := ⟨q + 1, 1, none⟩) (by have := HQ.out; show w.heap.size ≤ q + 1; omega) _
  clear k52 k42 HA2 HC1 B2 b4 hC2
  go_wp2_with fail
  generalize w4.setCell ⟨q + 1, 1, none⟩ (.pointer (some ⟨c2 + 1, 0, none⟩)) = w5 at k54 k44 HA4 HC4 B4 ⊢
  clear f5 c5 w4
  have a7 := HA4.out.2.1.cell 7
  have b0 := k54.cell 0
  have b1 := k54.cell 1
  refine wp_region_reads 6 0 (fun w' => w'.cell? ⟨a, 7, none⟩ = some (.map (some b)) ∧ w'.cell? ⟨q + 1, 0, none⟩ = some (.pointer (some ⟨c1 + 1, 0, none⟩)) ∧ w'.cell? ⟨q + 1, 1, none⟩ = some (.pointer (some ⟨c2 + 1, 0, none⟩))) (by kernel_rfl) (by kernel_rfl) (fun c a d v w h => by cases d <;> exact h) ⟨a7, b0, b1⟩ ?_
  simp only [List.take_succ_cons, List.take_zero, List.drop_succ_cons, List.drop_zero]
  iterate 6
    refine reads_step (v := ?_) (by rfl) (fun w' hS => ?_) ?_
    rotate_left
    · have u2 := hS.1
      have v0 := hS.2.1
      have v1 := hS.2.2
      clear hS
      go_simp
      with_reducible rfl
    simp only [Act.put, List.setIfInBounds_toArray, List.set_cons_zero, List.set_cons_succ]
  refine reads_nil ?_
  simp only [wpEarly]
  refine wpl_store_map rfl _ _ _ 79 rfl 9 88 strKA underAd b n D rfl HA4.out.2.2.drew hn _ (.agg #[.pointer (some ⟨c1 + 1, 0, none⟩), .pointer (some ⟨c2 + 1, 0, none⟩)]) _ rfl rfl hkey ?_
  intro w6 hm6 hg6 hs6
  have hbq := HA4.out.2.2.lt
  have hqn := HQ.out
  have hwb := HS.out.2.2.lt
  have hwa := HS.out.2.1.lt
  have hba := HS.out.1
  have k56 := k54.drew.grown hg6 (by simp; omega)
  have k46 := k44.drew.grown hg6 (by simp; omega)
  have x0 := k56.cell 0
  have x1 := k56.cell 1
  have y0 := k46.cell 0
  have y1 := k46.cell 1
  have g0 := k46.frozen 0
  have g1 := k46.frozen 1
  have HM6 := Lib.hid (And.intro hm6 hg6)
  clear hm6 hg6 a7 b0 b1 hqn
  go_wp2_with fail
  have k7 := (k46.set 0 (.pointer (some ⟨c1 + 1, 0, none⟩))).set 1 (.pointer (some ⟨c2 + 1, 0, none⟩))
  simp at k7
  obtain ⟨hm6, hg6⟩ := HM6.out
  have hqn := HQ.out
  have hh7 : ∀ g, g ≠ q → ((w6.setCell ⟨q, 0, none⟩ (.pointer (some ⟨c1 + 1, 0, none⟩))).setCell ⟨q, 1, none⟩ (.pointer (some ⟨c2 + 1, 0, none⟩))).heap[g]? = w6.heap[g]? := fun g hg => (Below.heap_setCell _ _ _ _ hg).trans (Below.heap_setCell _ _ _ _ hg)
  have hsz7 : ((w6.setCell ⟨q, 0, none⟩ (.pointer (some ⟨c1 + 1, 0, none⟩))).setCell ⟨q, 1, none⟩ (.pointer (some ⟨c2 + 1, 0, none⟩))).heap.size = w6.heap.size := by simp [World.setCell]
  have hos7 : ((w6.setCell ⟨q, 0, none⟩ (.pointer (some ⟨c1 + 1, 0, none⟩))).setCell ⟨q, 1, none⟩ (.pointer (some ⟨c2 + 1, 0, none⟩))).os = w6.os ∧ ((w6.setCell ⟨q, 0, none⟩ (.pointer (some ⟨c1 + 1, 0, none⟩))).setCell ⟨q, 1, none⟩ (.pointer (some ⟨c2 + 1, 0, none⟩))).tape = w6.tape ∧ ((w6.setCell ⟨q, 0, none⟩ (.pointer (some ⟨c1 + 1, 0, none⟩))).setCell ⟨q, 1, none⟩ (.pointer (some ⟨c2 + 1, 0, none⟩))).output = w6.output := ⟨rfl, rfl, rfl⟩
  generalize (w6.setCell ⟨q, 0, none⟩ (.pointer (some ⟨c1 + 1, 0, none⟩))).setCell ⟨q, 1, none⟩ (.pointer (some ⟨c2 + 1, 0, none⟩)) = w7 at k7 hh7 hsz7 hos7 ⊢
  have z0 := k7.cell 0
  have z1 := k7.cell 1
  have hR : (loadVar 88 ⟨q, 0, none⟩).run Tryz.prog w7 = .ok (.agg #[.pointer (some ⟨c1 + 1, 0, none⟩), .pointer (some ⟨c2 + 1, 0, none⟩)]) w7 := by clear hqn; go_simp
  have hch : ∀ c, Ch w5 c F G M H (List.replicate M 0) 0 false → b ≠ c → b ≠ c + 1 → b < c + 2 → q < c → Ch w7 c F G M H (List.replicate M 0) 0 false := fun c hC n1 n2 n3 n4 => by
    obtain ⟨ev, i1, i2, i3, i4⟩ := hC
    have hgo : ∀ g, g < w5.heap.size → g ≠ b → g ≠ q → w7.heap[g]? = w5.heap[g]? := fun g h1 h2 h3 => (hh7 g h3).trans (hg6.block g h1 (by simpa using h2))
    exact ⟨ev, (hgo _ i1.lt (by omega) (by omega)).trans i1, (hgo _ i2.lt (by omega) (by omega)).trans i2, i3, own_blockA i4 fun g hg => hgo g (i4.lt g hg).2 (by have := (i4.lt g hg).1; omega) (by have := (i4.lt g hg).1; omega)⟩
  refine bodyPost_ret (v := .agg #[.pointer (some ⟨c1 + 1, 0, none⟩), .pointer (some ⟨c2 + 1, 0, none⟩)]) (results_cell rfl rfl hR) rfl ⟨c1, c2, rfl, by omega, by omega, ⟨HS.out.1, ?_, hm6.of_block (hh7 b (by omega))⟩, hch c1 HC4.out.1 (by omega) (by omega) (by omega) (by omega), hch c2 HC4.out.2 (by omega) (by omega) (by omega) (by omega), ?_⟩
  · exact ((hh7 a (by omega)).trans (hg6.block a HA4.out.2.1.lt (by simp; omega))).trans HA4.out.2.1
  · refine ⟨?_, ?_, ?_, ?_, ?_⟩
    · exact hos7.1.trans (hg6.os.trans B4.os)
    · exact hos7.2.1.trans (hg6.tape.trans B4.tape)
    · exact hos7.2.2.trans (hg6.output.trans B4.output)
    · rw [hsz7]; exact Nat.le_trans B4.size hg6.size
    · intro g hg hgb
      exact ((hh7 g (by omega)).trans (hg6.block g (Nat.lt_of_lt_of_le hg B4.size) hgb)).trans (B4.block g hg)
end Go.Proofs.YtjiliegfcljjhaaGreat
