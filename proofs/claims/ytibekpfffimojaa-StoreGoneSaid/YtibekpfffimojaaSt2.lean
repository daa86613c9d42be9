/-
  The walk of the store's note (where no event is struck).
-/
import Derived.Test.YtibekpfffimojaaSt
import Derived.Test.YtibekpfffimojaaTail
namespace Go.Proofs.Ytibekpfffimojaa
open Go.RowKit Go.Proofs.Mem
set_option linter.unusedVariables false
set_option linter.unusedSimpArgs false
theorem info_ev : (Try.prog.info? 68).map (fun i => (i.zero, i.size, i.bytes)) = some (some (.agg #[.int .i64 0, .int .i64 0, .string ⟨#[]⟩, .int .u64 0]), 4, 40) := by kernel_rfl
theorem keepSt3 {w : World} {p k : Nat} {x y z : Value} (hk : k ≠ p) (h : w.cell? ⟨p, 2, none⟩ = some x ∧ w.cell? ⟨k, 0, none⟩ = some y ∧ w.cell? ⟨k, 1, none⟩ = some z) (v : Value) :
    (w.setCell ⟨p, 3, none⟩ v).cell? ⟨p, 2, none⟩ = some x ∧ (w.setCell ⟨p, 3, none⟩ v).cell? ⟨k, 0, none⟩ = some y ∧ (w.setCell ⟨p, 3, none⟩ v).cell? ⟨k, 1, none⟩ = some z :=
  ⟨(World.cell?_setCell_other _ _ _ _ (fun e => by injection e with e1 e2; omega)).trans h.1, (World.cell?_setCell_other _ _ _ _ (fun e => by injection e with e1 e2; omega)).trans h.2.1, (World.cell?_setCell_other _ _ _ _ (fun e => by injection e with e1 e2; omega)).trans h.2.2⟩
/-- The events behind one more: of those that are kept. -/
def nextEvs (evs : List Ev) (x : Ev) : List Ev := if evs.length < 1024 then evs ++ [x] else evs.drop 1 ++ [x]
theorem nextEvs_len {evs : List Ev} (x : Ev) (h : evs.length ≤ 1024) : (nextEvs evs x).length ≤ 1024 := by
  unfold nextEvs
  split
  · simp; omega
  · simp; omega
def NoteSt (p b n : Nat) (D : DataW Value) (most : Int) (now : Nat) (ev : Value) (evs : List Ev) (x : Ev) (w : World) (e : Ending) (w' : World) : Prop :=
  ∃ ev', e = .returned (.int .u64 ((now + 1 : Nat) : Int)) ∧ StIs w' p b n D most (now + 1) ev' (nextEvs evs x) ∧ T3 p b ev w w' ∧ EvTo w ev ev'
set_option maxHeartbeats 2000000 in
set_option maxRecDepth 100000 in
theorem note_lt (w : World) (p b n : Nat) (D : DataW Value) (most : Int) (now : Nat) (ev : Value) (evs : List Ev) (h : StIs w p b n D most now ev evs) (hn : now < 1000000000) (hl : evs.length < 1024) (what kind : Int) (name : ByteArray) :
    Calls Try.prog 21 #[.pointer (some ⟨p, 0, none⟩), .int .i64 what, .agg #[.int .i64 kind, .string name]] w (NoteSt p b n D most now ev evs ⟨what, kind, name, now + 1⟩ w) := by
  obtain ⟨ti, hi0, hz0, hz1, hz2⟩ := info_parts info_ev
  have hz1' := hz1
  have g1 : (now : Int) < 1000000000 := by omega
  have g2 : (evs.length : Int) + 1 ≤ 1024 := by omega
  have hne1 : nextEvs evs ⟨what, kind, name, now + 1⟩ = evs ++ [⟨what, kind, name, now + 1⟩] := if_pos hl
  unfold NoteSt
  rw [hne1]
  clear hne1
  have HS := Lib.hid h
  obtain ⟨d0, d1, d2, d3⟩ := h.cells
  have f2 := h.2.1.frozen 2
  have hpl := h.2.1.lt
  clear h hn hl
  go_enter Try.func21, Try.ntmps21
  have hca : ∀ o, (w.alloc o).cell? ⟨p, 2, none⟩ = some (.int .u64 now) := fun o => (HS.out.2.1.alloc o).cell 2
  have hfa : ∀ o, (w.alloc o).frozen? ⟨p, 2, none⟩ = false := fun o => (HS.out.2.1.alloc o).frozen 2
  go_wp2_with fail
  have kk := Bk.new (w.setCell ⟨p, 2, none⟩ (.int .u64 ((now : Int) + 1))) 77 #[.int .i64 kind, .string name]
  have kp := (HS.out.2.1.set 2 (.int .u64 ((now : Int) + 1))).alloc (.cells #[.int .i64 kind, .string name] 77)
  have hT2 : T3 p b ev w ((w.setCell ⟨p, 2, none⟩ (.int .u64 ((now : Int) + 1))).alloc (.cells #[.int .i64 kind, .string name] 77)) := ((T3.of_below (Below.refl _ _)).setP 2 _).trans (EvTo.refl _ _) (T3.of_below ((Below.refl _ _).alloc (Nat.le_refl _) _))
  have hown : ((w.setCell ⟨p, 2, none⟩ (.int .u64 ((now : Int) + 1))).alloc (.cells #[.int .i64 kind, .string name] 77)).ownsRow (p + 1) 68 4 ev evs.length (evs.flatMap Ev.cells) := by
    refine own_block HS.out.2.2.2 fun g hg => ?_
    have hge := HS.out.evGe hg
    exact (Below.heap_alloc _ _ g (by rw [World.size_setCell]; omega)).trans (Below.heap_setCell _ _ _ _ (by simp; omega))
  have hm2 : Mp Try.prog ((w.setCell ⟨p, 2, none⟩ (.int .u64 ((now : Int) + 1))).alloc (.cells #[.int .i64 kind, .string name] 77)) 77 b n D := (HS.out.2.2.1.setCell (by have := HS.out.1; simp; omega) _).alloc _
  rw [World.size_setCell] at kk
  simp at kp
  generalize (w.setCell ⟨p, 2, none⟩ (.int .u64 ((now : Int) + 1))).alloc (.cells #[.int .i64 kind, .string name] 77) = w2 at kk kp hT2 hown hm2 ⊢
  have k0 := kk.cell 0
  have k1 := kk.cell 1
  have p0 := kp.cell 0
  have p1 := kp.cell 1
  have p2 := kp.cell 2
  have p3 := kp.cell 3
  have q3 := kp.frozen 3
  have HO := Lib.hid hown
  clear hown d0 d1 d2 d3 f2 hca hfa
  have hevl : evs.length + 1 ≤ maxLen := by unfold maxLen; omega
  have hevb : (evs.length + 1) * 40 ≤ 140737488355328 := by omega
  have s2 : ∀ o, (w2.alloc o).cell? ⟨p, 2, none⟩ = some (.int .u64 ((now : Int) + 1)) := fun o => (kp.alloc o).cell 2
  have s3 : ∀ o, (w2.alloc o).cell? ⟨p, 3, none⟩ = some ev := fun o => (kp.alloc o).cell 3
  have t0 : ∀ o, (w2.alloc o).cell? ⟨w.heap.size, 0, none⟩ = some (.int .i64 kind) := fun o => (kk.alloc o).cell 0
  have t1 : ∀ o, (w2.alloc o).cell? ⟨w.heap.size, 1, none⟩ = some (.string name) := fun o => (kk.alloc o).cell 1
  have hne : some p ≠ ev.ownBlock := fun e => by have := HS.out.evGe e.symm; omega
  have hbs : p + 1 ≤ w2.heap.size + 1 := by have := kp.lt; omega
  have hkne : some w.heap.size ≠ ev.ownBlock := fun e => by have := HS.out.evGe e.symm; omega
  refine wp_region_reads 15 2 (fun w' => w'.cell? ⟨p, 2, none⟩ = some (.int .u64 ((now : Int) + 1)) ∧ w'.cell? ⟨w.heap.size, 0, none⟩ = some (.int .i64 kind) ∧ w'.cell? ⟨w.heap.size, 1, none⟩ = some (.string name) ∧ w'.cell? ⟨p, 3, none⟩ = some ev) (by kernel_rfl) (by kernel_rfl) (fun c a d v w h => by cases d <;> exact h) ⟨p2, k0, k1, p3⟩ ?_
  simp only [List.take_succ_cons, List.take_zero, List.drop_succ_cons, List.drop_zero]
  iterate 15
    refine reads_step (v := ?_) (by rfl) (fun w' hS => ?_) ?_
    rotate_left
    · have u2 := hS.1
      have v0 := hS.2.1
      have v1 := hS.2.2.1
      have u3 := hS.2.2.2
      clear hS
      go_simp
      with_reducible rfl
    simp only [Act.put, List.setIfInBounds_toArray, List.set_cons_zero, List.set_cons_succ]
  refine reads_nil ?_
  refine early_step rfl (by rfl) ?_
  go_simp
  refine early_step rfl (by rfl) ?_
  refine wp_append_lies _ (.tmp 18) (.tmp 29) 52 rfl (p + 1) 68 ti _ 4 40 Try.underlying52 hi0 hz0 hz1 hz2 rfl (by omega) ev evs.length (evs.flatMap Ev.cells) rfl ((HO.out.alloc _).drew) ⟨w2.heap.size, 0, none⟩ 1 1 [.int .i64 what, .int .i64 kind, .string name, .int .u64 ((now : Int) + 1)] rfl rfl (World.news_of_block (cs := #[.int .i64 what, .int .i64 kind, .string name, .int .u64 ((now : Int) + 1)]) (t := 68) (fr := (0, 0)) (heap_alloc_new w2 _)) (by simp [Value.oneCell']) (by omega) hevl hevb (by simp; omega) (w2.heap.size + 1) (by simp) ?_
  intro g cap w3 hown3 hg3 hat hlt
  have kp3 := ((kp.alloc (.cells #[.int .i64 what, .int .i64 kind, .string name, .int .u64 ((now : Int) + 1)] 68)).drew).grown hg3 hne
  have kk3 := ((kk.alloc (.cells #[.int .i64 what, .int .i64 kind, .string name, .int .u64 ((now : Int) + 1)] 68)).drew).grown hg3 hkne
  have r2 := kp3.cell 2
  have r3 := kp3.cell 3
  have r4 := kp3.frozen 3
  refine ⟨⟨r2, kk3.cell 0, kk3.cell 1, r3⟩, ?_⟩
  simp only [wpEarly]
  have HG3 := Lib.hid hg3
  have HA3 := Lib.hid hat
  have HO3 := Lib.hid hown3
  clear hg3 hat hown3 s2 s3 t0 t1 kk3 hevl hevb
  obtain ⟨N, hN⟩ : ∃ N, N = evs.length + 1 := ⟨_, rfl⟩
  rw [← hN]
  have g3 : (N : Int) ≤ 1024 := by omega
  have HN := Lib.hid hN
  clear hN g2 hne hkne hbs hi0 hz0 hz1 hz2 hz1' kk p0 p1 p2 p3 q3 k0 k1
  have hd : decide ((1024 : Int) < (N : Int)) = false := decide_eq_false (by omega)
  clear g3
  simp only [Act.put, List.setIfInBounds_toArray, List.set_cons_zero, List.set_cons_succ]
  have KP3 := Lib.hid kp3
  clear kp3
  go_wp2_with fail
  go_ret
  have k4 := KP3.out.set 3 (.slice (some ⟨g, 0, none⟩) N cap)
  simp at k4
  have hgp : g ≠ p := by
    rcases HA3.out with h | h
    · have := HS.out.evGe h; omega
    · have := kp.lt; omega
  have hbp := HS.out.1
  refine ⟨.slice (some ⟨g, 0, none⟩) N cap, by rw [Int.natCast_add]; rfl, ⟨hbp, ?_, ?_, ?_⟩, ?_, ?_⟩
  · rw [Int.natCast_add]; exact k4
  · have h3 := (hm2.alloc (.cells #[.int .i64 what, .int .i64 kind, .string name, .int .u64 ((now : Int) + 1)] 68)).drew
    exact (h3.grown HG3.out (fun e => by have := HS.out.evGe e.symm; omega)).setCell (by simp; omega) _
  · have h4 := own_block (w' := w3.setCell ⟨p, 3, none⟩ (.slice (some ⟨g, 0, none⟩) N cap)) HO3.out (fun g' hg' => Below.heap_setCell _ _ _ _ (by
      have : g = g' := by simpa [Value.ownBlock] using hg'
      simp; omega))
    have e1 : (evs ++ [(⟨what, kind, name, now + 1⟩ : Ev)]).length = evs.length + 1 := by simp
    have e2 : [(⟨what, kind, name, now + 1⟩ : Ev)].flatMap Ev.cells = [.int .i64 what, .int .i64 kind, .string name, .int .u64 ((now : Int) + 1)] := by simp [Ev.cells]
    rw [e1, List.flatMap_append, e2]
    rw [HN.out] at h4 ⊢
    exact h4
  · have h5 : T3 p b ev w2 w3 := (T3.of_below (((Below.refl _ _).alloc (Nat.le_refl _) _).drew)).trans (EvTo.refl _ _) (T3.grownE HG3.out)
    exact (hT2.trans (EvTo.refl _ _) h5).setP 3 _
  · rcases HA3.out with h | h
    · exact .inl h.symm
    · exact .inr ⟨g, by have := hT2.size; omega, rfl⟩
end Go.Proofs.Ytibekpfffimojaa
