/-
  The walk of the store's put: an object's cells are a row without a form.
-/
import Derived.Test.YtibekpfffimojaaSt2
import Derived.Test.YtibekpfffimojaaStKey
import Derived.Test.YtibekpfffimojaaBig
namespace Go.Proofs.Ytibekpfffimojaa
open Go.RowKit Go.Proofs.Mem
set_option linter.unusedVariables false
set_option linter.unusedSimpArgs false
/-- An object's cells. -/
structure ObL (L : Array Value) (kind : Int) (name : ByteArray) (ver : Nat) : Prop where
  is : Is47 L
  kind : L[0]? = some (.int .i64 kind)
  name : L[1]? = some (.string name)
  ver : L[2]? = some (.int .u64 ver)
theorem ObL.set {L : Array Value} {kind : Int} {name : ByteArray} {ver : Nat} (h : ObL L kind name ver) (v : Nat) : ObL (L.setIfInBounds 2 (.int .u64 v)) kind name v := by
  obtain ⟨⟨h1, h2⟩, h3, h4, h5⟩ := h
  refine ⟨⟨by simpa using h1, ?_⟩, ?_, ?_, ?_⟩
  · simp only [List.all_eq_true] at h2 ⊢
    intro x hx
    rw [Array.toList_setIfInBounds] at hx
    rcases List.mem_or_eq_of_mem_set hx with h | h
    · exact h2 x h
    · subst h; rfl
  · simpa using h3
  · simpa using h4
  · simp [h1]
theorem underSt : Try.prog.underlying 73 = some (.map 77 44) := Try.underlying73
theorem zero47' (w : World) : (zeroValue 44).run Try.prog w = .ok (.agg Z47) w := zero47 w
/-- The object in the map, as it was put. -/
def putL (L : Array Value) (v : Nat) : Array Value := L.setIfInBounds 2 (.int .u64 v)
def PutSt (p b n : Nat) (D : DataW Value) (most : Int) (now : Nat) (ev : Value) (evs : List Ev) (what kind : Int) (name : ByteArray) (L : Array Value) (w : World) (e : Ending) (w' : World) : Prop :=
  ∃ ev', e = .returned (.int .u64 ((now + 1 : Nat) : Int)) ∧ StIs w' p b (n + 1) (D.put (kOf kind name) (.held (.agg (putL L (now + 1))))) most (now + 1) ev' (nextEvs evs ⟨what, kind, name, now + 1⟩) ∧ T3 p b ev w w' ∧ EvTo w ev ev'
set_option maxHeartbeats 2000000 in
set_option maxRecDepth 100000 in
theorem put_any (w : World) (p b n : Nat) (D : DataW Value) (most : Int) (now : Nat) (ev : Value) (evs : List Ev) (h : StIs w p b n D most now ev evs) (hN : n < maxLen)
    (what kind : Int) (name : ByteArray) (ver : Nat) (L : Array Value) (hL : ObL L kind name ver) (hk : (Lit.int .i64 kind).wf = true) (hs : name.size ≤ maxLen)
    (hnote : ∀ w1 : World, StIs w1 p b n D most now ev evs → Calls Try.prog 21 #[.pointer (some ⟨p, 0, none⟩), .int .i64 what, .agg #[.int .i64 kind, .string name]] w1 (NoteSt p b n D most now ev evs ⟨what, kind, name, now + 1⟩ w1)) :
    Calls Try.prog 20 #[.pointer (some ⟨p, 0, none⟩), .int .i64 what, .agg L] w (PutSt p b n D most now ev evs what kind name L w) := by
  have hkey := keyOf_st kind name hk hs
  have C1 := Lib.hid hnote
  have HS := Lib.hid h
  have HL := Lib.hid hL
  obtain ⟨a0, a1, a2⟩ := (⟨hL.kind, hL.name, hL.ver⟩ : _ ∧ _ ∧ _)
  clear h hL hk hs hnote
  go_enter Try.func20, Try.ntmps20
  go_wp2_with fail
  have hB2 : Below w.heap.size w ((w.alloc (.cells L 44)).alloc (.cells #[.int .i64 kind, .string name] 77)) := ((Below.refl _ _).alloc (Nat.le_refl _) _).alloc (by simp) _
  have kq := (Bk.new w 44 L).alloc (.cells #[.int .i64 kind, .string name] 77)
  have kr := Bk.new (w.alloc (.cells L 44)) 77 #[.int .i64 kind, .string name]
  rw [World.size_alloc] at kr
  generalize (w.alloc (.cells L 44)).alloc (.cells #[.int .i64 kind, .string name] 77) = w2 at hB2 kq kr ⊢
  refine (C1.out w2 (HS.out.below hB2)).mono ?_
  rintro e w3 ⟨ev', rfl, HS3, HT3, HE3⟩
  have hpl := HS.out.2.1.lt
  have hbl := HS.out.2.2.1.lt
  have hevl : ∀ g, ev.ownBlock = some g → g < w.heap.size := fun g hg => (HS.out.evGe hg).2
  have kq3 := HT3.bk kq (by omega) (by omega) (fun e => by have := hevl _ e.symm; omega)
  have kr3 := HT3.bk kr (by omega) (by omega) (fun e => by have := hevl _ e.symm; omega)
  have c2 := kq3.cell 2
  rw [a2] at c2
  have q2 := kq3.frozen 2
  have HS3' := Lib.hid HS3
  clear HS3 a0 a1 a2
  obtain ⟨V, hV⟩ : ∃ V : Int, V = ((now + 1 : Nat) : Int) := ⟨_, rfl⟩
  rw [← hV]
  have HV := Lib.hid hV
  clear hV
  go_wp2_with fail
  have hw2 : w.heap.size + 2 ≤ w2.heap.size := by have := kr.lt; omega
  have hev' : ∀ g, ev'.ownBlock = some g → g ≠ w.heap.size ∧ g ≠ w.heap.size + 1 := fun g hg => by
    rcases HE3 with h | ⟨g', h1, h2⟩
    · have := hevl g (by rw [← h]; exact hg); omega
    · rw [h2] at hg; injection hg with hg; omega
  have hsn : p ≠ w.heap.size ∧ b ≠ w.heap.size := by omega
  have HS4 := Lib.hid (show StIs (w3.setCell ⟨w.heap.size, 2, none⟩ (.int .u64 V)) p b n D most (now + 1) ev' (nextEvs evs ⟨what, kind, name, now + 1⟩) from by
    obtain ⟨i1, i2, i3, i4⟩ := HS3'.out
    exact ⟨i1, i2.far hsn.1 _, i3.setCell hsn.2 _, own_block i4 fun g hg => Below.heap_setCell _ _ _ _ (hev' g hg).1⟩)
  have HT4 : T3 p b ev w (w3.setCell ⟨w.heap.size, 2, none⟩ (.int .u64 V)) := ((T3.of_below hB2).trans (EvTo.refl _ _) HT3).setNew (Nat.le_refl _) _
  have HE4 : EvTo w ev ev' := EvTo.trans hB2.size (EvTo.refl _ _) HE3
  have kq4 := kq3.set 2 (.int .u64 V)
  have kr4 := kr3.far (p := ⟨w.heap.size, 2, none⟩) (by simp) (.int .u64 V)
  have hP : L.setIfInBounds 2 (.int .u64 V) = putL L (now + 1) := by rw [HV.out]; rfl
  have hL4 : ObL (putL L (now + 1)) kind name (now + 1) := HL.out.set (now + 1)
  rw [hP] at kq4
  clear hP kq3 kr3 HS3' HT3 HE3 c2 q2 kq kr hB2 hw2 hev' hevl
  generalize w3.setCell ⟨w.heap.size, 2, none⟩ (.int .u64 V) = w4 at HS4 HT4 kq4 kr4 ⊢
  clear w3 w2
  have p1 := HS4.out.cells.2.1
  have r0 := kr4.cell 0
  have r1 := kr4.cell 1
  have hm4 := HS4.out.2.2.1
  refine wp_region_reads 6 0 (fun w' => w'.cell? ⟨p, 1, none⟩ = some (.map (some b)) ∧ w'.cell? ⟨w.heap.size + 1, 0, none⟩ = some (.int .i64 kind) ∧ w'.cell? ⟨w.heap.size + 1, 1, none⟩ = some (.string name) ∧ Bk w' w.heap.size 44 (putL L (now + 1))) (by kernel_rfl) (by kernel_rfl) (fun c a d v w h => by cases d <;> exact h) ⟨p1, r0, r1, kq4⟩ ?_
  simp only [List.take_succ_cons, List.take_zero, List.drop_succ_cons, List.drop_zero]
  iterate 5
    refine reads_step (v := ?_) (by rfl) (fun w' hS => ?_) ?_
    rotate_left
    · have u1 := hS.1
      have v0 := hS.2.1
      have v1 := hS.2.2.1
      clear hS
      go_simp
      with_reducible rfl
    simp only [Act.put, List.setIfInBounds_toArray, List.set_cons_zero, List.set_cons_succ]
  refine reads_loadg (t := 44) (cs := putL L (now + 1)) (g := w.heap.size) (fun w' hS => hS.2.2.2) (by rfl) 44 (.tmp 5) rfl rfl _ Try.underlying44 rfl (info47 hL4.is) ?_
  simp only [Act.put, List.setIfInBounds_toArray, List.set_cons_zero, List.set_cons_succ]
  refine reads_nil ?_
  refine wpl_store_map rfl _ _ _ 73 rfl 77 44 stK underSt b n D rfl hm4.drew hN _ (.agg (putL L (now + 1))) _ rfl rfl hkey ?_
  intro w5 hm5 hg5 hs5
  clear kr4 r0 r1 p1
  have HT5 : T3 p b ev w w5 := (show T3 p b ev w w4.drew from HT4).trans (EvTo.refl _ _) (T3.grownB hg5)
  have hqb : w.heap.size ≠ b := by omega
  have kq5 := kq4.drew.grown hg5 (by simp; omega)
  have c2 := kq5.cell 2
  rw [hL4.ver] at c2
  have HS5 : StIs w5 p b (n + 1) (D.put (kOf kind name) (.held (.agg (putL L (now + 1))))) most (now + 1) ev' (nextEvs evs ⟨what, kind, name, now + 1⟩) := by
    obtain ⟨i1, i2, i3, i4⟩ := HS4.out
    refine ⟨i1, i2.drew.grown hg5 (by simp; omega), hm5, own_block i4 fun g hg => (hg5.block g ?_ ?_)⟩
    · exact (i4.lt g hg).2
    · have := HS4.out.evGe hg; simp; omega
  have HS6 := Lib.hid HS5
  clear HS5 kq5 hm5 hg5 kq4 hm4 HS4
  go_wp2_with fail
  go_ret
  exact ⟨ev', by rw [Int.natCast_add]; rfl, HS6.out, HT5, HE4⟩
end Go.Proofs.Ytibekpfffimojaa
