/-
  The contract of package chart's New, as the statement ChartGrows uses it. Conditions: those named in each.
-/
import Derived.Test.YtjiliegfcljjhaaGreatCh4
import Derived.RegionTactic
import Derived.Outline
namespace Go.Proofs.YtjiliegfcljjhaaGreat
open Go.RowKit Go.Proofs.Mem
set_option linter.unusedVariables false
set_option linter.unusedSimpArgs false
theorem mulDiv_next (e g : Nat) : min (mulDivN e g 1000 true) 9007199254740992 = ChartLaw.nextE g e := by
  unfold mulDivN ChartLaw.nextE
  have : e * g / 1000 + (if true = true ∧ 0 < e * g % 1000 then 1 else 0) = (e * g + 999) / 1000 := by
    split <;> rename_i h
    · have := h.2; omega
    · have : ¬ 0 < e * g % 1000 := fun h0 => h ⟨rfl, h0⟩
      omega
  rw [this]
theorem endAt_succ (g e i : Nat) : ChartLaw.endAt g (i + 1) e = ChartLaw.nextE g (ChartLaw.endAt g i e) := rfl
theorem endsL_succ (G F n : Nat) : endsL G F (n + 1) = endsL G F n ++ [endV G F n] := by simp [endsL, List.range_succ]
theorem info_milli : (Tryz.prog.info? 29).map (fun i => (i.zero, i.size, i.bytes)) = some (some (.int .i64 0), 1, 8) := by kernel_rfl
/-- The rules that may be. -/
def rulesB (F G M H : Int) : Bool := decide (1 ≤ F ∧ F ≤ 1099511627776 ∧ 1001 ≤ G ∧ G ≤ 4000 ∧ 1 ≤ M ∧ M ≤ 64 ∧ 1 ≤ H ∧ H ≤ 1800)
theorem new_bad (F G M H : Int) (w : World) (h : rulesB F G M H = false) :
    Calls Tryz.prog 24 #[.agg #[.int .i64 F, .int .i64 G, .int .i64 M, .int .i64 H]] w fun e w' => e = .returned (.tuple #[.pointer none, .int .i64 1]) ∧ Below w.heap.size w w' := by
  have h := of_decide_eq_false h
  have hc : F < 1 ∨ (1 ≤ F ∧ 1099511627776 < F) ∨ (1 ≤ F ∧ F ≤ 1099511627776 ∧ (G < 1001 ∨ (1001 ≤ G ∧ 4000 < G))) ∨ (1 ≤ F ∧ F ≤ 1099511627776 ∧ 1001 ≤ G ∧ G ≤ 4000 ∧ (M < 1 ∨ (1 ≤ M ∧ 64 < M))) ∨ (1 ≤ F ∧ F ≤ 1099511627776 ∧ 1001 ≤ G ∧ G ≤ 4000 ∧ 1 ≤ M ∧ M ≤ 64 ∧ (H < 1 ∨ (1 ≤ H ∧ 1800 < H))) := by omega
  clear h
  rcases hc with h1 | ⟨h1, h2⟩ | ⟨h1, h2, h3⟩ | ⟨h1, h2, h3, h4, h5⟩ | ⟨h1, h2, h3, h4, h5, h6, h7⟩
  · go_enter Tryz.func24, Tryz.ntmps24
    go_wp2_with fail
    go_ret2
    exact ⟨rfl, below_al _ _⟩
  · go_enter Tryz.func24, Tryz.ntmps24
    go_wp2_with fail
    go_ret2
    exact ⟨rfl, below_al _ _⟩
  · have C := Lib.hid (fun w => between_f G 1001 4000 w h3)
    clear h3
    go_enter Tryz.func24, Tryz.ntmps24
    go_wp2_with (go_at_call 40; refine (C.out _).mono ?_; rintro e w1 ⟨rfl, rfl⟩)
    go_ret2
    exact ⟨rfl, below_al _ _⟩
  · have C := Lib.hid (fun w => between_f M 1 64 w h5)
    clear h5
    go_enter Tryz.func24, Tryz.ntmps24
    go_wp2_with fail
    refine (between_t G 1001 4000 _ h3 h4).mono ?_
    rintro e w1 ⟨rfl, rfl⟩
    go_wp2_with fail
    refine (C.out _).mono ?_
    rintro e w1 ⟨rfl, rfl⟩
    go_wp2_with fail
    go_ret2
    exact ⟨rfl, below_al _ _⟩
  · have C := Lib.hid (fun w => between_f H 1 1800 w h7)
    clear h7
    go_enter Tryz.func24, Tryz.ntmps24
    go_wp2_with fail
    refine (between_t G 1001 4000 _ h3 h4).mono ?_
    rintro e w1 ⟨rfl, rfl⟩
    go_wp2_with fail
    refine (between_t M 1 64 _ h5 h6).mono ?_
    rintro e w1 ⟨rfl, rfl⟩
    go_wp2_with fail
    refine (C.out _).mono ?_
    rintro e w1 ⟨rfl, rfl⟩
    go_wp2_with fail
    go_ret2
    exact ⟨rfl, below_al _ _⟩
/-- A chart just made. -/
def NewIs (F G M H : Nat) (w : World) (e : Ending) (w' : World) : Prop := ∃ c, e = .returned (.tuple #[.pointer (some ⟨c + 1, 0, none⟩), .int .i64 0]) ∧ w.heap.size ≤ c ∧ Ch w' c F G M H (List.replicate M 0) 0 false ∧ Below w.heap.size w w'
set_option maxHeartbeats 1000000 in
set_option maxRecDepth 100000 in
theorem new_any (F G M H : Nat) (w : World) (h : rulesB F G M H = true) :
    Calls Tryz.prog 24 #[.agg #[.int .i64 F, .int .i64 G, .int .i64 M, .int .i64 H]] w (NewIs F G M H w) := by
  obtain ⟨F0, F1, G0, G1, M0, M1, H0, H1⟩ := of_decide_eq_true h
  clear h
  obtain ⟨i, hi, hz, hs, hby⟩ := info_parts (P := Tryz.prog) (e := 38) (z := .int .u64 0) (size := 1) (bytes := 8) (by kernel_rfl)
  have hmk : ∀ w : World, (Instr.makeSlice 139 (.int .i64 M) (.int .i64 M)).run Tryz.prog w = .ok (.slice (some ⟨w.heap.size, 0, none⟩) M M) (w.alloc (.cells (List.replicate M (Value.int .u64 0)).toArray 38)) := fun w => by
    have := run_makeSlice (P := Tryz.prog) w 139 38 i (.int .u64 0) Tryz.underlying139 hi hz .i64 .i64 M M (by omega) (by omega) (by rw [hs]; omega) (by rw [hby]; omega) (by omega)
    rw [hs] at this
    have e : madeCells (Value.int .u64 0).cells (M * 1) = (List.replicate M (Value.int .u64 0)).toArray := by
      apply Array.ext
      · simp [madeCells, Value.cells]
      · intro j h1 h2; simp [madeCells, Value.cells, Nat.mod_one]
    simp only [Int.toNat_natCast] at this
    rw [e] at this
    exact this
  clear hi hz hs hby
  have hrep : (List.replicate M (Value.int .u64 0)).toArray = ((List.replicate M 0).map u64v).toArray := by simp [u64v]
  rw [hrep] at hmk
  clear hrep
  obtain ⟨C, hC⟩ : ∃ C, C = ((List.replicate M 0).map u64v).toArray := ⟨_, rfl⟩
  rw [← hC] at hmk
  have HC := Lib.hid hC
  clear hC
  go_enter Tryz.func24, Tryz.ntmps24
  go_wp2_with fail
  refine (between_t G 1001 4000 _ G0 G1).mono ?_
  rintro e w1 ⟨rfl, rfl⟩
  go_wp2_with fail
  refine (between_t M 1 64 _ M0 M1).mono ?_
  rintro e w1 ⟨rfl, rfl⟩
  go_wp2_with fail
  refine (between_t H 1 1800 _ H0 H1).mono ?_
  rintro e w1 ⟨rfl, rfl⟩
  go_wp2_with fail
  go_region
  go_wp2_with fail
  obtain ⟨W3, hW3⟩ : ∃ W3, W3 = (((w.alloc (Obj.cells #[Value.int IntKind.i64 F, Value.int IntKind.i64 G, Value.int IntKind.i64 M, Value.int IntKind.i64 H] 66)).alloc (Obj.cells C 38)).alloc
    (Obj.cells #[Value.int IntKind.i64 F, Value.int IntKind.i64 G, Value.int IntKind.i64 M, Value.int IntKind.i64 H, Value.slice none 0 0, Value.slice (some { block := w.heap.size + 1, off := 0 }) M M, Value.int IntKind.i64 0, Value.bool false] 141)).drew := ⟨_, rfl⟩
  rw [← hW3]
  have hsz : W3.heap.size = w.heap.size + 1 + 2 := by rw [hW3]; simp
  have kr : Bk W3 w.heap.size 66 #[.int .i64 F, .int .i64 G, .int .i64 M, .int .i64 H] := by rw [hW3]; exact (((Bk.new w _ _).alloc _).alloc _).drew
  have kw : Bk W3 (w.heap.size + 1) 38 C := by
    rw [hW3]
    have := Bk.new (w.alloc (Obj.cells #[Value.int IntKind.i64 F, Value.int IntKind.i64 G, Value.int IntKind.i64 M, Value.int IntKind.i64 H] 66)) 38 C
    rw [World.size_alloc] at this
    exact (this.alloc _).drew
  have kc : Bk W3 (w.heap.size + 1 + 1) 141 #[.int .i64 F, .int .i64 G, .int .i64 M, .int .i64 H, .slice none 0 0, .slice (some ⟨w.heap.size + 1, 0, none⟩) M M, .int .i64 0, .bool false] := by
    rw [hW3]
    have := Bk.new ((w.alloc (Obj.cells #[Value.int IntKind.i64 F, Value.int IntKind.i64 G, Value.int IntKind.i64 M, Value.int IntKind.i64 H] 66)).alloc (Obj.cells C 38)) 141 #[.int .i64 F, .int .i64 G, .int .i64 M, .int .i64 H, .slice none 0 0, .slice (some ⟨w.heap.size + 1, 0, none⟩) M M, .int .i64 0, .bool false]
    rw [World.size_alloc, World.size_alloc] at this
    exact this.drew
  have hB3 : Below w.heap.size w W3 := by rw [hW3]; exact (((below_al _ _).alloc (by simp) _).alloc (by simp; omega) _).drew
  clear hW3 hmk
  obtain ⟨c, hc⟩ : ∃ c, c = w.heap.size + 1 := ⟨_, rfl⟩
  rw [← hc]
  rw [← hc] at hsz kw kc
  have hcl : w.heap.size < c := by omega
  clear hc
  go_loopw [5, 6, 7, 45] (fun x _ _ i wr => ∃ (k : Nat) (ev : Value), k ≤ M ∧ i = .int .i64 k ∧ x = .int .u64 (ChartLaw.endAt G k F : Nat) ∧ Bk wr w.heap.size 66 #[.int .i64 F, .int .i64 G, .int .i64 M, .int .i64 H] ∧ Bk wr c 38 C ∧ Bk wr (c + 1) 141 #[.int .i64 F, .int .i64 G, .int .i64 M, .int .i64 H, ev, .slice (some ⟨c, 0, none⟩) M M, .int .i64 0, .bool false] ∧ wr.ownsRow (c + 2) 29 1 ev k (endsL G F k) ∧ Below w.heap.size w wr ∧ c + 2 ≤ wr.heap.size) (fun _ _ _ i wr => M - (intOf i).toNat)
  case atStart => exact ⟨0, _, Nat.zero_le _, rfl, rfl, kr, kw, kc, World.ownsRow_nil .., hB3, by omega⟩
  case round =>
    obtain ⟨k, ev, hk, rfl, rfl, kr, kw, kc, hown, hBw, hle⟩ := hrel
    clear hsz hB3
    by_cases hlt : k < M
    · have r1 := kr.cell 1
      have c4 := kc.cell 4
      have hE : ChartLaw.endAt G k F ≤ 9007199254740992 := ChartLaw.endAt_le G F (by omega) k
      have hn := mulDiv_next (ChartLaw.endAt G k F) G
      rw [← endAt_succ] at hn
      have hes := endsL_succ G F k
      unfold endV at hes
      obtain ⟨E, hEq⟩ : ∃ E, E = ChartLaw.endAt G k F := ⟨_, rfl⟩
      rw [← hEq] at hE hn hes ⊢
      have CM : Hid (∀ w1, Calls Tryz.prog 43 #[.int .u64 E, .int .u64 G, .int .u64 1000, .bool true] w1 (MulDivIs E G 1000 true w1)) := Lib.hid fun w1 => muldiv_some E G 1000 true w1 (by omega) (by omega) (by omega) (by omega)
      have hm0 : mulDivN E G 1000 true < 36029797018963970 := by
        unfold mulDivN
        have := Nat.mul_le_mul hE (show G ≤ 4000 by omega)
        split <;> omega
      have HES := Lib.hid hes
      obtain ⟨n, hnn⟩ : ∃ n, n = mulDivN E G 1000 true := ⟨_, rfl⟩
      rw [← hnn] at hn hm0
      have HN := Lib.hid hn
      have HNN := Lib.hid hnn
      clear hn hes hEq hnn
      have hE' : (E : Int) ≤ 9007199254740992 := by omega
      have hne : ¬ w.heap.size = c + 1 := by omega
      have hne2 : ¬ c + 1 = w.heap.size := by omega
      clear r1
      go_wp2_with (at_builtin; refine wpl_append rfl _ _ _ rfl (c + 2) 29 _ 1 8 Tryz.underlying138 info_milli rfl (by omega) (by omega) ev k _ rfl (hown.alloc _) _ 1 [.int .i64 E] rfl (Sl.made wr #[.int .i64 E] 29 1 1 (Nat.le_refl _) rfl) (by intro u hu; simp at hu; subst hu; rfl) (by omega) (by simp; omega) ?_; intro v' w6 hown6 hgrow6 _; obtain ⟨vA, vc, rfl, hvc, _⟩ := id (Sl.of_own hown6); have hb6 := below_grown ((Below.refl _ _).alloc (by omega) _) (hown.alloc _) hgrow6 (by simp; omega) (Nat.le_refl _); have kc6 := kc.below hb6 (by omega); have kr6 := kr.below hb6 (by omega); have kw6 := kw.below hb6 (by omega); have c46 := kc6.cell 4; have f46 := kc6.frozen 4; have r16 := kr6.cell 1; have hs6 := hb6.size)
      have hB6 : Below w.heap.size w w6 := hBw.trans (hb6.mono (by have := hBw.size; omega))
      have kc7 : Bk (w6.setCell ⟨c + 1, 4, none⟩ (.slice vA (k + 1) vc)) (c + 1) 141 #[.int .i64 F, .int .i64 G, .int .i64 M, .int .i64 H, .slice vA (k + 1) vc, .slice (some ⟨c, 0, none⟩) M M, .int .i64 0, .bool false] := by have := kc6.set 4 (.slice vA (k + 1) vc); simpa using this
      have kr7 := kr6.far (p := ⟨c + 1, 4, none⟩) (by simpa using hne) (.slice vA (k + 1) vc)
      have kw7 := kw6.far (p := ⟨c + 1, 4, none⟩) (by simp) (.slice vA (k + 1) vc)
      have hown7 := own_set hown6 ⟨c + 1, 4, none⟩ (by simp) (.slice vA (k + 1) vc)
      have hB7 : Below w.heap.size w (w6.setCell ⟨c + 1, 4, none⟩ (.slice vA (k + 1) vc)) := hB6.setCell (by simp; omega) (.slice vA (k + 1) vc)
      have hs7 : c + 2 ≤ (w6.setCell ⟨c + 1, 4, none⟩ (.slice vA (k + 1) vc)).heap.size := by simp [World.setCell]; omega
      generalize w6.setCell ⟨c + 1, 4, none⟩ (.slice vA (k + 1) vc) = w7 at kc7 kr7 kw7 hown7 hB7 hs7 ⊢
      clear hvc hown6 hgrow6 hb6 kc6 kr6 kw6 c46 f46 r16 hs6 hB6 kc kw kr hown hBw hle c4
      rw [← HES.out] at hown7
      refine (CM.out _).mono ?_
      rintro e w8 ⟨hcase, hb8⟩
      obtain ⟨n', hn', _, rfl⟩ : ∃ n' : Nat, n' = n ∧ True ∧ e = .returned (.tuple #[.int .u64 n', .int .i64 0]) := by
        rw [← HNN.out] at hcase
        rcases hcase with ⟨h1, _⟩ | ⟨_, h1, _⟩ | ⟨_, n', h1, _, h2⟩
        · omega
        · omega
        · exact ⟨n', h1, trivial, h2⟩
      clear hcase
      subst hn'
      have R : ∀ nx : Nat, nx = ChartLaw.endAt G (k + 1) F → (∃ (k' : Nat) (ev : Value), k' ≤ M ∧ Value.int .i64 ((k : Int) + 1) = .int .i64 k' ∧ Value.int .u64 (nx : Int) = .int .u64 (ChartLaw.endAt G k' F : Nat) ∧ Bk w8 w.heap.size 66 #[.int .i64 F, .int .i64 G, .int .i64 M, .int .i64 H] ∧ Bk w8 c 38 C ∧ Bk w8 (c + 1) 141 #[.int .i64 F, .int .i64 G, .int .i64 M, .int .i64 H, ev, .slice (some ⟨c, 0, none⟩) M M, .int .i64 0, .bool false] ∧ w8.ownsRow (c + 2) 29 1 ev k' (endsL G F k') ∧ Below w.heap.size w w8 ∧ c + 2 ≤ w8.heap.size) := fun nx e => ⟨k + 1, .slice vA (k + 1) vc, by omega, by go_num, by rw [e], kr7.below' hb8, kw7.below' hb8, kc7.below' hb8, own_below hown7 hb8, hB7.trans (hb8.mono hB7.size), Nat.le_trans hs7 hb8.size⟩
      have R := Lib.hid R
      clear kc7 kr7 kw7 hown7 hB7 hs7 hb8
      rcases Nat.lt_or_ge 9007199254740992 n' with hn | hn
      · have hn' : (9007199254740992 : Int) < n' := by omega
        go_wp2_with fail
        exact ⟨by have := R.out 9007199254740992 (by have := HN.out; omega); exact this, by simp [intOf]; omega⟩
      · have hn' : (n' : Int) ≤ 9007199254740992 := by omega
        go_wp2_with fail
        exact ⟨R.out n' (by have := HN.out; omega), by simp [intOf]; omega⟩
    · obtain rfl : k = M := by omega
      go_wp2_with fail
      go_ret2
      refine ⟨c, rfl, by omega, ⟨ev, kc, by rw [← HC.out]; exact kw, by simp, hown⟩, hBw⟩
end Go.Proofs.YtjiliegfcljjhaaGreat
