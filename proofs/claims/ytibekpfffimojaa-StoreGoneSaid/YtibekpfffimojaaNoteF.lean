/-
  The store's note where as many events are kept as may be: the first is struck.
-/
import Derived.Test.YtibekpfffimojaaDel
import Derived.Test.YtibekpfffimojaaTail
namespace Go.Proofs.Mem
open Go Go.RowKit
set_option linter.unusedVariables false
/-- A call among the early operations, whatever it turns. -/
theorem early_callT {P : Program} {ops : Array Oper} {Q : Exit → Act → World → Prop} {S : World → Prop} {tail : Act → World → Prop} {k i : Nat} {o : Oper} {a : Act} {w : World} (v : Value) (d : Nat) (f : FuncId) (args : Array Value) {R : World → Prop}
    (hi : ops[i]? = some o) (hd : o.dst = some d) (hw : Region.wanted o (yielded ops a.tmps) = true) (hr : (execOp a.eval o).run P w = .ok (.enter f args) w)
    (hc : Calls P f args w fun e w' => e = .returned v ∧ R w') (h : ∀ w', R w' → S w' ∧ wpEarly P ops Q S tail k (i + 1) (a.put (some d) v) w') : wpEarly P ops Q S tail (k + 1) i a w := by
  refine early_step hi hw ?_
  unfold Oper.wp
  rw [hr]
  refine Calls.mono hc fun e w' he => ?_
  obtain ⟨rfl, hb⟩ := he
  show S w' ∧ wpEarly P ops Q S tail k (i + 1) (a.put o.dst v) w'
  rw [hd]
  exact h w' hb
end Go.Proofs.Mem
namespace Go.Proofs.Ytibekpfffimojaa
open Go.RowKit Go.Proofs.Mem
set_option linter.unusedVariables false
set_option linter.unusedSimpArgs false
set_option maxHeartbeats 2000000 in
set_option maxRecDepth 100000 in
theorem note_full (w : World) (p b n : Nat) (D : DataW Value) (most : Int) (now : Nat) (ev : Value) (evs : List Ev) (h : StIs w p b n D most now ev evs) (hn : now < 1000000000) (hl : evs.length = 1024) (what kind : Int) (name : ByteArray) :
    Calls Try.prog 21 #[.pointer (some ⟨p, 0, none⟩), .int .i64 what, .agg #[.int .i64 kind, .string name]] w (NoteSt p b n D most now ev evs ⟨what, kind, name, now + 1⟩ w) := by
  obtain ⟨ti, hi0, hz0, hz1, hz2⟩ := info_parts info_ev
  have hz1' := hz1
  have g1 : (now : Int) < 1000000000 := by omega
  have g2 : evs.length + 1 = 1025 := by omega
  have hne1 : nextEvs evs ⟨what, kind, name, now + 1⟩ = evs.drop 1 ++ [⟨what, kind, name, now + 1⟩] := if_neg (by omega)
  unfold NoteSt
  rw [hne1]
  clear hne1
  have HS := Lib.hid h
  obtain ⟨d0, d1, d2, d3⟩ := h.cells
  have f2 := h.2.1.frozen 2
  have hpl := h.2.1.lt
  clear h hn hl
  go_enter Try.func21, Try.ntmps21
  have hca : ∀ o, (w.alloc o).cell? ⟨p, 2, none⟩ = some (.int .u64 now) := fun o => (HS.out.2.1.alloc o).cell 2
  have hfa : ∀ o, (w.alloc o).frozen? ⟨p, 2, none⟩ = false := fun o => (HS.out.2.1.alloc o).frozen 2
  go_wp2_with fail
  have kk := Bk.new (w.setCell ⟨p, 2, none⟩ (.int .u64 ((now : Int) + 1))) 77 #[.int .i64 kind, .string name]
  have kp := (HS.out.2.1.set 2 (.int .u64 ((now : Int) + 1))).alloc (.cells #[.int .i64 kind, .string name] 77)
  have hT2 : T3 p b ev w ((w.setCell ⟨p, 2, none⟩ (.int .u64 ((now : Int) + 1))).alloc (.cells #[.int .i64 kind, .string name] 77)) := ((T3.of_below (Below.refl _ _)).setP 2 _).trans (EvTo.refl _ _) (T3.of_below ((Below.refl _ _).alloc (Nat.le_refl _) _))
  have hown : ((w.setCell ⟨p, 2, none⟩ (.int .u64 ((now : Int) + 1))).alloc (.cells #[.int .i64 kind, .string name] 77)).ownsRow (p + 1) 68 4 ev evs.length (evs.flatMap Ev.cells) := by
    refine own_block HS.out.2.2.2 fun g hg => ?_
    have hge := HS.out.evGe hg
    exact (Below.heap_alloc _ _ g (by rw [World.size_setCell]; omega)).trans (Below.heap_setCell _ _ _ _ (by simp; omega))
  have hm2 : Mp Try.prog ((w.setCell ⟨p, 2, none⟩ (.int .u64 ((now : Int) + 1))).alloc (.cells #[.int .i64 kind, .string name] 77)) 77 b n D := (HS.out.2.2.1.setCell (by have := HS.out.1; simp; omega) _).alloc _
  rw [World.size_setCell] at kk
  simp at kp
  generalize (w.setCell ⟨p, 2, none⟩ (.int .u64 ((now : Int) + 1))).alloc (.cells #[.int .i64 kind, .string name] 77) = w2 at kk kp hT2 hown hm2 ⊢
  have k0 := kk.cell 0
  have k1 := kk.cell 1
  have p0 := kp.cell 0
  have p1 := kp.cell 1
  have p2 := kp.cell 2
  have p3 := kp.cell 3
  have q3 := kp.frozen 3
  have HO := Lib.hid hown
  clear hown d0 d1 d2 d3 f2 hca hfa
  have hevl : evs.length + 1 ≤ maxLen := by unfold maxLen; omega
  have hevb : (evs.length + 1) * 40 ≤ 140737488355328 := by omega
  have s2 : ∀ o, (w2.alloc o).cell? ⟨p, 2, none⟩ = some (.int .u64 ((now : Int) + 1)) := fun o => (kp.alloc o).cell 2
  have s3 : ∀ o, (w2.alloc o).cell? ⟨p, 3, none⟩ = some ev := fun o => (kp.alloc o).cell 3
  have t0 : ∀ o, (w2.alloc o).cell? ⟨w.heap.size, 0, none⟩ = some (.int .i64 kind) := fun o => (kk.alloc o).cell 0
  have t1 : ∀ o, (w2.alloc o).cell? ⟨w.heap.size, 1, none⟩ = some (.string name) := fun o => (kk.alloc o).cell 1
  have hne : some p ≠ ev.ownBlock := fun e => by have := HS.out.evGe e.symm; omega
  have hbs : p + 1 ≤ w2.heap.size + 1 := by have := kp.lt; omega
  have hkne : some w.heap.size ≠ ev.ownBlock := fun e => by have := HS.out.evGe e.symm; omega
  refine wp_region_reads 15 2 (fun w' => w'.cell? ⟨p, 2, none⟩ = some (.int .u64 ((now : Int) + 1)) ∧ w'.cell? ⟨w.heap.size, 0, none⟩ = some (.int .i64 kind) ∧ w'.cell? ⟨w.heap.size, 1, none⟩ = some (.string name) ∧ w'.cell? ⟨p, 3, none⟩ = some ev) (by kernel_rfl) (by kernel_rfl) (fun c a d v w h => by cases d <;> exact h) ⟨p2, k0, k1, p3⟩ ?_
  simp only [List.take_succ_cons, List.take_zero, List.drop_succ_cons, List.drop_zero]
  iterate 15
    refine reads_step (v := ?_) (by rfl) (fun w' hS => ?_) ?_
    rotate_left
    · have u2 := hS.1
      have v0 := hS.2.1
      have v1 := hS.2.2.1
      have u3 := hS.2.2.2
      clear hS
      go_simp
      with_reducible rfl
    simp only [Act.put, List.setIfInBounds_toArray, List.set_cons_zero, List.set_cons_succ]
  refine reads_nil ?_
  refine early_step rfl (by rfl) ?_
  go_simp
  refine early_step rfl (by rfl) ?_
  refine wp_append_lies _ (.tmp 18) (.tmp 29) 52 rfl (p + 1) 68 ti _ 4 40 Try.underlying52 hi0 hz0 hz1 hz2 rfl (by omega) ev evs.length (evs.flatMap Ev.cells) rfl ((HO.out.alloc _).drew) ⟨w2.heap.size, 0, none⟩ 1 1 [.int .i64 what, .int .i64 kind, .string name, .int .u64 ((now : Int) + 1)] rfl rfl (World.news_of_block (cs := #[.int .i64 what, .int .i64 kind, .string name, .int .u64 ((now : Int) + 1)]) (t := 68) (fr := (0, 0)) (heap_alloc_new w2 _)) (by simp [Value.oneCell']) (by omega) hevl hevb (by simp; omega) (w2.heap.size + 1) (by simp) ?_
  intro g cap w3 hown3 hg3 hat hlt
  have kp3 := ((kp.alloc (.cells #[.int .i64 what, .int .i64 kind, .string name, .int .u64 ((now : Int) + 1)] 68)).drew).grown hg3 hne
  have kk3 := ((kk.alloc (.cells #[.int .i64 what, .int .i64 kind, .string name, .int .u64 ((now : Int) + 1)] 68)).drew).grown hg3 hkne
  have r2 := kp3.cell 2
  have r3 := kp3.cell 3
  have r4 := kp3.frozen 3
  refine ⟨⟨r2, kk3.cell 0, kk3.cell 1, r3⟩, ?_⟩
  simp only [wpEarly]
  have HG3 := Lib.hid hg3
  have HA3 := Lib.hid hat
  have HO3 := Lib.hid hown3
  clear hg3 hat hown3 s2 s3 t0 t1 kk3 hevl hevb
  have kp4 := kp3.set 3 (.slice (some ⟨g, 0, none⟩) 1025 cap)
  simp at kp4
  have hgp : g ≠ p := by
    rcases HA3.out with h | h
    · have := HS.out.evGe h; omega
    · have := kp.lt; omega
  have hge : p + 1 ≤ g := by
    rcases HA3.out with h | h
    · have := HS.out.evGe h; omega
    · have := kp.lt; omega
  have hT3 : T3 p b ev w (w3.setCell ⟨p, 3, none⟩ (.slice (some ⟨g, 0, none⟩) 1025 cap)) := by
    have h5 : T3 p b ev w2 w3 := (T3.of_below (((Below.refl _ _).alloc (Nat.le_refl _) _).drew)).trans (EvTo.refl _ _) (T3.grownE HG3.out)
    exact (hT2.trans (EvTo.refl _ _) h5).setP 3 _
  have hE : EvTo w ev (.slice (some ⟨g, 0, none⟩) (1024 : Nat) cap) := by
    rcases HA3.out with h | h
    · exact .inl h.symm
    · exact .inr ⟨g, by have := hT2.size; omega, rfl⟩
  have hM4 : Mp Try.prog (w3.setCell ⟨p, 3, none⟩ (.slice (some ⟨g, 0, none⟩) 1025 cap)) 77 b n D := by
    have h3 := (hm2.alloc (.cells #[.int .i64 what, .int .i64 kind, .string name, .int .u64 ((now : Int) + 1)] 68)).drew
    exact (h3.grown HG3.out (fun e => by have := HS.out.evGe e.symm; have := HS.out.1; omega)).setCell (by have := HS.out.1; simp; omega) _
  obtain ⟨y, ys, hys⟩ : ∃ y ys, evs ++ [(⟨what, kind, name, now + 1⟩ : Ev)] = y :: ys := by
    cases evs with
    | nil => exact ⟨_, _, rfl⟩
    | cons y ys => exact ⟨_, _, rfl⟩
  have hyl : ys.length = 1024 := by
    have := congrArg List.length hys
    simp only [List.length_append, List.length_cons, List.length_nil] at this
    omega
  have hyd : ys = evs.drop 1 ++ [⟨what, kind, name, now + 1⟩] := by
    cases evs with
    | nil => simp at g2
    | cons z zs => injection hys with h1 h2; exact h2.symm
  have hO4 : (w3.setCell ⟨p, 3, none⟩ (.slice (some ⟨g, 0, none⟩) 1025 cap)).ownsRow (p + 1) 68 4 (.slice (some ⟨g, 0, none⟩) 1025 cap) 1025 ((y :: ys).flatMap Ev.cells) := by
    have h4 := own_block (w' := w3.setCell ⟨p, 3, none⟩ (.slice (some ⟨g, 0, none⟩) 1025 cap)) HO3.out (fun g' hg' => Below.heap_setCell _ _ _ _ (by
      have : g = g' := by simpa [Value.ownBlock] using hg'
      simp; omega))
    rw [← hys, List.flatMap_append]
    have e2 : [(⟨what, kind, name, now + 1⟩ : Ev)].flatMap Ev.cells = [.int .i64 what, .int .i64 kind, .string name, .int .u64 ((now : Int) + 1)] := by simp [Ev.cells]
    rw [e2]
    rw [g2] at h4
    exact h4
  rw [g2]
  simp only [Act.put, List.setIfInBounds_toArray, List.set_cons_zero, List.set_cons_succ]
  clear hne hkne hbs hi0 hz0 hz1 hz2 hz1' kk p0 p1 p2 p3 q3 k0 k1 HO3 HA3 HG3 hys
  have hbp := HS.out.1
  clear HS HO hm2 hT2 kp
  have KP4 := Lib.hid kp4
  have HT3 := Lib.hid hT3
  have HM4 := Lib.hid hM4
  have HO4 := Lib.hid hO4
  have HE := Lib.hid hE
  clear kp4 hT3 hM4 hO4 hE
  go_wp2_with fail
  generalize w3.setCell ⟨p, 3, none⟩ (.slice (some ⟨g, 0, none⟩) 1025 cap) = w4 at KP4 HT3 HM4 HO4 ⊢
  have s3 := KP4.out.cell 3
  clear r2 r3 r4 kp3
  refine wp_region_reads 11 1 (fun w' => w'.cell? ⟨p, 3, none⟩ = some (.slice (some ⟨g, 0, none⟩) 1025 cap)) (by kernel_rfl) (by kernel_rfl) (fun c a d v w h => by cases d <;> exact h) s3 ?_
  simp only [List.take_succ_cons, List.take_zero, List.drop_succ_cons, List.drop_zero]
  iterate 11
    refine reads_step (v := ?_) (by rfl) (fun w' hS => ?_) ?_
    rotate_left
    · go_simp
      with_reducible rfl
    simp only [Act.put, List.setIfInBounds_toArray, List.set_cons_zero, List.set_cons_succ]
  refine reads_nil ?_
  have CD := del_first w4.drew (p + 1) g 1024 cap y ys hyl HO4.out.drew (by omega) (by omega)
  refine early_callT (.slice (some ⟨g, 0, none⟩) 1024 cap) 50 _ #[.slice (some ⟨g, 0, none⟩) 1025 cap, .int .i64 0, .int .i64 1] rfl rfl (by rfl) (by go_simp; kernel_rfl) CD ?_
  rintro w5 ⟨O5, G5⟩
  have kp5 := (KP4.out.drew).grown G5 (by simpa using Ne.symm hgp)
  have s5 := kp5.cell 3
  have t5 := kp5.frozen 3
  have u5 := kp5.cell 2
  refine ⟨s5, ?_⟩
  simp only [wpEarly]
  simp only [Act.put, List.setIfInBounds_toArray, List.set_cons_zero, List.set_cons_succ]
  have HO5 := Lib.hid O5
  have HG5 := Lib.hid G5
  have HY := Lib.hid (And.intro hyl hyd)
  have KP5 := Lib.hid kp5
  have HP := Lib.hid hgp
  clear O5 G5 CD kp5 hyl hyd HO4 s3 g2 hgp
  go_wp2_with fail
  go_ret
  have k6 := KP5.out.set 3 (.slice (some ⟨g, 0, none⟩) 1024 cap)
  simp at k6
  refine ⟨.slice (some ⟨g, 0, none⟩) 1024 cap, by rw [Int.natCast_add]; rfl, ⟨hbp, ?_, ?_, ?_⟩, ?_, HE.out⟩
  · rw [Int.natCast_add]; exact k6
  · exact ((HM4.out.drew).grown HG5.out (fun e => by injection e with e; omega)).setCell (by simp; omega) _
  · have h4 := own_block (w' := w5.setCell ⟨p, 3, none⟩ (.slice (some ⟨g, 0, none⟩) 1024 cap)) HO5.out (fun g' hg' => Below.heap_setCell _ _ _ _ (by
      have : g = g' := by simpa [Value.ownBlock] using hg'
      have := HP.out
      simp; omega))
    rw [← HY.out.2, HY.out.1]
    exact h4
  · exact (HT3.out.trans HE.out (T3.grownE (ev := .slice (some ⟨g, 0, none⟩) 1024 cap) ⟨HG5.out.os, HG5.out.tape, HG5.out.output, HG5.out.size, HG5.out.block⟩)).setP 3 _
theorem note_any (w : World) (p b n : Nat) (D : DataW Value) (most : Int) (now : Nat) (ev : Value) (evs : List Ev) (h : StIs w p b n D most now ev evs) (hn : now < 1000000000) (hl : evs.length ≤ 1024) (what kind : Int) (name : ByteArray) :
    Calls Try.prog 21 #[.pointer (some ⟨p, 0, none⟩), .int .i64 what, .agg #[.int .i64 kind, .string name]] w (NoteSt p b n D most now ev evs ⟨what, kind, name, now + 1⟩ w) := by
  rcases Nat.lt_or_ge evs.length 1024 with h1 | h1
  · exact note_lt w p b n D most now ev evs h hn h1 what kind name
  · exact note_full w p b n D most now ev evs h hn (by omega) what kind name
end Go.Proofs.Ytibekpfffimojaa
