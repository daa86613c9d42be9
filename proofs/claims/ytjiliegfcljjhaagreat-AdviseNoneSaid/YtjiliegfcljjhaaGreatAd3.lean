/-
  A book of samples in memory: the keys of its map; scrape.New and the first sample of a book.
-/
import Derived.Test.YtjiliegfcljjhaaGreatAd2
import Derived.Test.YtjiliegfcljjhaaGreatRM2
import Derived.Test.YtjiliegfcljjhaaGreatLName
import Derived.Test.YtjiliegfcljjhaaGreatMaps
import Derived.Test.YtjiliegfcljjhaaGreatTail
import Derived.DeepKeys4
import Derived.ProofKit
import Derived.Outline
namespace Go.Proofs.YtjiliegfcljjhaaGreat
open Go.RowKit Go.Proofs.Mem
open Go.Maps (Keyed)
set_option linter.unusedVariables false
set_option linter.unusedSimpArgs false
theorem laidOutA : laidOutB Tryz.prog = true := by kernel_rfl
theorem srK : Keyed Tryz.prog 77 := Keyed.of_law (deep_law_laid laidOutA (m := 100) (by omega) (of_decide_eq_true (by kernel_rfl)) (by kernel_rfl) (by kernel_rfl))
/-- The key of a subject and a metric, as the datum has it. -/
def kSr (s m : ByteArray) : Lit := .string (keyBytes [.string s.data.toList, .string m.data.toList])
set_option maxRecDepth 100000 in
theorem keyOf_sr (s m : ByteArray) (hk : s.size ≤ maxLen) (hn : m.size ≤ maxLen) : keyOf Tryz.prog 77 (.agg #[.string s, .string m]) = some (kSr s m) := by
  have e2 : Tryz.prog.keyType 77 = true := by kernel_rfl
  have e4 : Tryz.prog.cellsOf 77 = 2 := by kernel_rfl
  have e6 : Tryz.prog.cellsOf 9 = 1 := by kernel_rfl
  have e7 : ∃ m, Tryz.prog.types.size = m + 1 := ⟨Tryz.prog.types.size - 1, by kernel_rfl⟩
  obtain ⟨j, hm⟩ := e7
  have h1 : ∀ j, Tryz.prog.keyLits (j + 2) 77 [.string s, .string m] = some [.string s.data.toList, .string m.data.toList] := by
    intro j
    simp only [Program.keyLits, Tryz.underlying77]
    simp [Program.keyLits, e4, e6, Tryz.underlying9, hk, hn]
  unfold keyOf
  rw [Tryz.underlying77]
  have h2 : (Value.agg #[.string s, .string m]).formed Tryz.prog 77 = true := by
    simp [Value.formed, Tryz.underlying77, e4]
  simp only [e2, h2, Bool.and_self, if_true]
  rw [hm, show (Value.agg #[.string s, .string m]).cells.toList = [.string s, .string m] from rfl, show j + 1 + 1 = j + 2 from rfl, h1 j]
  rfl

theorem underSr : Tryz.prog.underlying 104 = some (.map 77 109) := Tryz.underlying104
theorem zeroSr (w : World) : (zeroValue 109).run Tryz.prog w = .ok (.pointer none) w := by kernel_rfl
/-- A book at block s. -/
def BkIs (w : World) (s b n : Nat) (D : DataW Value) (most age : Int) : Prop := b < s ∧ Bk w s 106 #[.int .i64 most, .int .i64 age, .map (some b)] ∧ Mp Tryz.prog w 77 b n D
theorem BkIs.below {w w' : World} {s b n : Nat} {D : DataW Value} {most age : Int} (h : BkIs w s b n D most age) (hb : Below w.heap.size w w') : BkIs w' s b n D most age := ⟨h.1, h.2.1.below' hb, h.2.2.below hb⟩
set_option maxRecDepth 100000 in
theorem scrape_new (w : World) : Calls Tryz.prog 13 #[.agg #[.int .i64 2, .int .i64 9]] w fun e w' => ∃ s b, e = .returned (.tuple #[.pointer (some ⟨s, 0, none⟩), .int .i64 0]) ∧ w.heap.size ≤ b ∧ BkIs w' s b 0 (.map []) 2 9 ∧ Below w.heap.size w w' := by
  have hmm := @run_makeMap Tryz.prog
  go_enter Tryz.func13, Tryz.ntmps13
  go_wp2_with fail
  go_ret2
  have h1 := Mp.made (w.alloc (.cells #[.int .i64 2, .int .i64 9] 73)) Tryz.prog 77
  have h2 := Bk.new ((w.alloc (.cells #[.int .i64 2, .int .i64 9] 73)).alloc (.map #[] 0)) 106 #[.int .i64 2, .int .i64 9, .map (some (w.heap.size + 1))]
  simp only [World.size_alloc] at h1 h2
  exact ⟨_, w.heap.size + 1, rfl, by omega, ⟨by omega, h2, h1.alloc _⟩, below_tr (below_tr (below_al _ _) (below_al _ _)) (below_al _ _)⟩
def ScrapeSt (s b : Nat) (sub met : ByteArray) (w : World) (e : Ending) (w' : World) : Prop := e = .returned (.tuple #[.int .i64 100, .int .i64 0]) ∧ ∃ p q zs f n, BkIs w' s b 1 ((DataW.map []).put (kSr sub met) (.held (.pointer (some ⟨p, 0, none⟩)))) 2 9 ∧ RingI w' p q zs f n ∧ lst zs f n = [(1, 100)] ∧ w.heap.size ≤ p ∧ w.heap.size ≤ q ∧
  (∀ g, g < w.heap.size → g ≠ b → w'.heap[g]? = w.heap[g]?) ∧ ∀ B W, Below B W w → B ≤ b → B ≤ w.heap.size → Below B W w'
set_option maxHeartbeats 1000000 in
set_option maxRecDepth 100000 in
theorem scrape_first (w : World) (s b : Nat) (h : BkIs w s b 0 (.map []) 2 9) (sub met : ByteArray) (h1 : nmB sub = true) (h2 : nmB met = true) (h3 : sub.size ≤ maxLen) (h4 : met.size ≤ maxLen) :
    Calls Tryz.prog 14 #[.pointer (some ⟨s, 0, none⟩), .int .i64 1, .agg #[.string sub, .string met], .int .u64 4591870180066957722] w (ScrapeSt s b sub met w) := by
  have hkey := keyOf_sr sub met h3 h4
  have HS := Lib.hid h
  have CN := Lib.hid (And.intro (fun w => lname_any sub w h3) (fun w => lname_any met w h4))
  rw [h1, h2] at CN
  have hb1 := below_al w (.cells #[.string sub, .string met] 77)
  have HS1 := Lib.hid (h.below hb1)
  have k6 := Bk.new w 77 #[.string sub, .string met]
  clear h h1 h2 h3 h4
  go_enter Tryz.func14, Tryz.ntmps14
  go_wp2_with fail
  generalize hq : w.heap.size = q6 at k6 ⊢
  have HQ := Lib.hid hq
  clear hq
  generalize w.alloc (.cells #[.string sub, .string met] 77) = w1 at hb1 HS1 k6 ⊢
  refine (CN.out.1 _).mono ?_
  rintro e wz ⟨rfl, rfl⟩
  have a0 := k6.cell 0
  have a1 := k6.cell 1
  go_wp2_with fail
  refine (CN.out.2 _).mono ?_
  rintro e wz ⟨rfl, rfl⟩
  go_wp2_with fail
  refine (gread_one _).mono ?_
  rintro e w2 ⟨rfl, b2⟩
  have B2 := below_tr hb1 b2
  have k62 := k6.below' b2
  have HS2 := Lib.hid (HS1.out.below b2)
  clear a0 a1 b2 hb1 HS1 k6 w1
  go_wp2_with fail
  obtain ⟨d2, m2⟩ := (⟨HS2.out.2.1.cell 2, HS2.out.2.2⟩ : _ ∧ _)
  have a0 := k62.cell 0
  have a1 := k62.cell 1
  have hv : valAt (DataW.map []) (kSr sub met) (.pointer none) = .pointer none := valAt_empty _ _
  have hh : Maps.has (DataW.map [] : DataW Value) (kSr sub met) = false := by simp [Maps.has]
  refine wp_region_reads2 8 9 0 (fun w' => w'.cell? ⟨s, 2, none⟩ = some (.map (some b)) ∧ w'.cell? ⟨q6, 0, none⟩ = some (.string sub) ∧ w'.cell? ⟨q6, 1, none⟩ = some (.string met) ∧ Mp Tryz.prog w' 77 b 0 (.map [])) (by kernel_rfl) (by kernel_rfl) (fun c a d v w h => by cases d <;> exact h) ⟨d2, a0, a1, m2⟩ ?_
  simp only [List.take_succ_cons, List.take_zero, List.drop_succ_cons, List.drop_zero]
  iterate 8
    refine reads2_step (v := ?_) (by rfl) (fun w' hS => ?_) ?_
    rotate_left
    · have u2 := hS.1
      have v0 := hS.2.1
      have v1 := hS.2.2.1
      have hl := hS.2.2.2.run_look_ok srK underSr (zeroSr w') hkey
      rw [hv, hh] at hl
      clear hS
      go_simp
      with_reducible rfl
    simp only [Act.put, List.setIfInBounds_toArray, List.set_cons_zero, List.set_cons_succ]
  refine reads2_free (v := ?_) (by rfl) (fun w' => ?_) ?_
  rotate_left
  · go_simp
    with_reducible rfl
  simp only [Act.put, List.setIfInBounds_toArray, List.set_cons_zero, List.set_cons_succ]
  refine reads2_nil ?_
  simp only [wpEarly]
  have m2d := m2.drew
  have c1 := HS2.out.2.1.drew.cell 0
  have c2 := HS2.out.2.1.drew.cell 2
  have hlen : ∀ ty, (Builtin.len_ #[104] ty #[.map (some b)]).run Tryz.prog w2.drew = .ok (.int .i64 0) w2.drew := fun ty => by
    have := World.ownsMap.len m2d underSr ty
    exact this
  go_wp2_with fail
  have B2d : Below w.heap.size w w2.drew := B2.drew
  have HS2d : Hid (BkIs w2.drew s b 0 (.map []) 2 9) := Lib.hid ⟨HS2.out.1, HS2.out.2.1.drew, m2d⟩
  have k6d := k62.drew
  clear a0 a1 hv hh d2 m2 m2d c1 c2 B2 HS2 k62 hlen
  generalize w2.drew = w3 at B2d HS2d k6d ⊢
  refine (newI_ok 2 (by omega) (by omega) w3).mono ?_
  rintro e w4 ⟨p, q, rfl, hR, hp, hq, b4⟩
  have B4 := below_tr B2d b4
  have k64 := k6d.below' b4
  have HS4 := Lib.hid (HS2d.out.below b4)
  have hp' := Nat.le_trans B2d.size hp
  have hq' := Nat.le_trans B2d.size hq
  have hsl := HS2d.out.2.1.lt
  have hbl := HS2d.out.2.2.lt
  have hkl := k6d.lt
  clear b4 HS2d B2d
  have HRl := hR.plt
  go_wp2_with fail
  refine (putI_ok 1 (by omega) 100 w4 hR (by simp [lst])).mono ?_
  rintro e w5 ⟨rfl, ⟨zs, f, n, hR5, _, hl5⟩, hT⟩
  have k65 := hT.bk k64 (by omega) (by omega)
  have hS5 : BkIs w5 s b 0 (.map []) 2 9 := ⟨HS4.out.1, hT.bk HS4.out.2.1 (by omega) (by omega), HS4.out.2.2.of_block (hT.heap b HS4.out.2.2.lt (by omega) (by omega))⟩
  have hl6 : lst zs f n = [(1, 100)] := by rw [hl5]; simp [lst]
  have B5 := hT.below _ _ B4 hp' hq' B4.size
  have HR5 := Lib.hid (And.intro hR5 hl6)
  have HS5 := Lib.hid hS5
  clear hR5 hS5 hl5 hl6 hT HS4 k64 hR B4
  go_wp2_with fail
  have d2 := HS5.out.2.1.cell 2
  have m2 := HS5.out.2.2
  have a0 := k65.cell 0
  have a1 := k65.cell 1
  refine wp_region_reads 6 0 (fun w' => w'.cell? ⟨s, 2, none⟩ = some (.map (some b)) ∧ w'.cell? ⟨q6, 0, none⟩ = some (.string sub) ∧ w'.cell? ⟨q6, 1, none⟩ = some (.string met)) (by kernel_rfl) (by kernel_rfl) (fun c a d v w h => by cases d <;> exact h) ⟨d2, a0, a1⟩ ?_
  simp only [List.take_succ_cons, List.take_zero, List.drop_succ_cons, List.drop_zero]
  iterate 6
    refine reads_step (v := ?_) (by rfl) (fun w' hS => ?_) ?_
    rotate_left
    · have u2 := hS.1
      have v0 := hS.2.1
      have v1 := hS.2.2
      clear hS
      go_simp
      with_reducible rfl
    simp only [Act.put, List.setIfInBounds_toArray, List.set_cons_zero, List.set_cons_succ]
  refine reads_nil ?_
  simp only [wpEarly]
  refine wpl_store_map rfl _ _ _ 104 rfl 77 109 srK underSr b 0 (.map []) rfl m2.drew (by unfold maxLen; omega) _ (.pointer (some ⟨p, 0, none⟩)) _ rfl rfl hkey ?_
  intro w6 hm6 hg6 hs6
  have hS6 := Lib.hid (And.intro hm6 (And.intro hg6 hs6))
  clear hm6 hg6 hs6 m2 d2 a0 a1
  go_wp2_with fail
  go_ret2
  obtain ⟨hm6, hg6, hs6⟩ := hS6.out
  have hRR := HR5.out.1
  have hpb : p ≠ b := by omega
  have hqb : q ≠ b := by omega
  have hsb := HS5.out.1
  refine ⟨rfl, p, q, zs, f, n, ⟨hsb, HS5.out.2.1.drew.grown hg6 (by simp; omega), hm6⟩, ⟨hRR.bp.imp fun _ h => ⟨h.1, h.2.drew.grown hg6 (by simpa using hpb)⟩, hRR.bq.imp fun _ h => Bk.grown (Bk.drew h) hg6 (by simpa using hqb), hRR.ne, hRR.hf, hRR.hn, hRR.hl⟩, HR5.out.2, hp', hq', ?_, ?_⟩
  · intro g hg hgb
    exact (hg6.block g (Nat.lt_of_lt_of_le hg B5.size) (by simpa using hgb)).trans (B5.block g hg)
  · intro B W hW hBb hBw
    exact below_map (hW.trans (B5.mono hBw)).drew hg6 (Nat.le_trans hBw B5.size) hBb
end Go.Proofs.YtjiliegfcljjhaaGreat
