/-
  Since of a store that is there.
-/
import Derived.Test.YtibekpfffimojaaNoteF
namespace Go.Proofs.Ytibekpfffimojaa
open Go.RowKit Go.Proofs.Mem
set_option linter.unusedVariables false
set_option linter.unusedSimpArgs false
set_option maxRecDepth 100000 in
/-- slices.Clone: the same cells, in a block of the call's own. -/
theorem clone_ev (n : Nat) (xs : List Value) (v : Value) (w : World) (h : Sl w 4 v n xs) (h1 : ∀ u ∈ xs, u.oneCell' = true) (hl : n * 40 ≤ 140737488355328) :
    Calls Try.prog 22 #[v] w fun e w' => ∃ v', e = .returned v' ∧ w'.ownsRow w.heap.size 68 4 v' n xs ∧ Below w.heap.size w w' ∧ ((v = .slice none 0 0) → v' = .slice none 0 0) := by
  obtain ⟨A, c, rfl, hc, hA, hlen, hx⟩ := id h
  have hnil := fun (w : World) (a : Option Addr) (n c : Nat) => Lib.run_eql_slice_nil (P := Try.prog) w _ _ a n c 0 0 Try.underlying52
  have HL := Lib.hid hl
  clear hl
  cases A with
  | none =>
    have hc0 := hA rfl
    subst hc0
    obtain rfl : n = 0 := by omega
    obtain rfl : xs = [] := List.eq_nil_of_length_eq_zero (by simpa using hlen)
    go_enter Try.func22, Try.ntmps22
    go_wp2_with fail
    go_ret
    exact ⟨.slice none 0 0, rfl, World.ownsRow_nil .., Below.refl _ _, by simp⟩
  | some ad =>
    have hk : Bk (w.alloc (.cells #[] 68)) w.heap.size 68 #[] := Bk.new w _ _
    have hown : (w.alloc (.cells #[] 68)).ownsRow w.heap.size 68 4 (.slice (some ⟨w.heap.size, 0, none⟩) 0 0) 0 [] := by
      have := hk.own (base := w.heap.size) (size := 4) (n := 0) (c := 0) (Nat.le_refl _) (Nat.le_refl _) (by simp [maxLen]) rfl
      simpa using this
    go_enter Try.func22, Try.ntmps22
    go_wp2_with (at_builtin; refine wpl_append rfl _ _ _ rfl w.heap.size 68 _ 4 40 Try.underlying52 info_ev rfl (by omega) (by omega) _ _ _ rfl hown _ n xs rfl (h.alloc _) h1 (by have := HL.out; omega) (by simp) ?_; intro v' w1 hown1 hgrow1 _)
    go_ret
    exact ⟨_, rfl, by simpa using hown1, below_grown ((Below.refl _ _).alloc (Nat.le_refl _) _) hown hgrow1 (by simp) (Nat.le_refl _), by simp⟩
theorem evs_one (evs : List Ev) : ∀ u ∈ evs.flatMap Ev.cells, u.oneCell' = true := fun u hu => by
  obtain ⟨y, _, hy⟩ := List.mem_flatMap.1 hu
  simp only [Ev.cells, List.mem_cons, List.not_mem_nil, or_false] at hy
  rcases hy with rfl | rfl | rfl | rfl <;> rfl
theorem drop_flat {α : Type} {s : Nat} (f : α → List Value) (hf : ∀ x, (f x).length = s) : ∀ (xs : List α) (k : Nat), (xs.flatMap f).drop (k * s) = (xs.drop k).flatMap f
  | [], k => by simp
  | x :: xs, 0 => by simp
  | x :: xs, k + 1 => by
    rw [List.flatMap_cons, List.drop_succ_cons, show (k + 1) * s = (f x).length + k * s by rw [hf, Nat.succ_mul, Nat.add_comm], ← drop_flat f hf xs k]
    simp
theorem wrap_u64_nat {k : Nat} (h : k < 1000000000000) : IntKind.u64.wrap (k : Int) = k := by
  unfold IntKind.wrap
  simp [IntKind.signed, IntKind.bits]
  omega
section
variable (w : World) (p b n : Nat) (D : DataW Value) (most : Int) (now : Nat) (ev : Value) (evs : List Ev) (h : StIs w p b n D most now ev evs) (hn : now < 1000000000) (hl : evs.length ≤ 1024)
include h hn hl
set_option maxHeartbeats 1000000 in
set_option maxRecDepth 100000 in
theorem since_gone (ver : Nat) (hv : ver ≤ now) (hg : evs.length < now - ver) : Calls Try.prog 10 #[.pointer (some ⟨p, 0, none⟩), .int .u64 ver] w fun e w' => e = .returned (.tuple #[.slice none 0 0, .int .i64 11]) ∧ w' = w := by
  obtain ⟨d0, d1, d2, d3⟩ := h.cells
  obtain ⟨A, c, rfl, hc, hA, hlen, hx⟩ := Sl.of_own h.2.2.2
  obtain ⟨m, hm⟩ : ∃ m, now = ver + m := ⟨now - ver, (Nat.add_sub_cancel' hv).symm⟩
  subst hm
  have g1 : ¬ ((ver : Int) + (m : Int) < (ver : Int)) := by omega
  have g2 : (ver : Int) + (m : Int) - (ver : Int) = m := by omega
  have g3 : (m : Int) < 1000000000 := by omega
  have g4 : (evs.length : Int) < (m : Int) := by omega
  have g5 : (evs.length : Int) ≤ 1024 := by omega
  rw [Int.natCast_add] at d2
  clear h hn hl hx hlen hA hc hv hg
  go_enter Try.func10, Try.ntmps10
  go_wp2_with fail
  go_ret2
  exact ⟨rfl, rfl⟩
set_option maxHeartbeats 2000000 in
set_option maxRecDepth 100000 in
theorem since_ok (ver k : Nat) (hv : ver ≤ now) (hg : evs.length = k + (now - ver)) : Calls Try.prog 10 #[.pointer (some ⟨p, 0, none⟩), .int .u64 ver] w fun e w' => ∃ v', e = .returned (.tuple #[v', .int .i64 0]) ∧ w'.ownsRow w.heap.size 68 4 v' (now - ver) ((evs.drop k).flatMap Ev.cells) ∧ Below w.heap.size w w' := by
  obtain ⟨d0, d1, d2, d3⟩ := h.cells
  have hsl := Sl.of_own h.2.2.2
  obtain ⟨A, c, rfl, hc, hA, hlen, hx⟩ := id hsl
  clear hx
  obtain ⟨m, hm⟩ : ∃ m, now = ver + m := ⟨now - ver, (Nat.add_sub_cancel' hv).symm⟩
  subst hm
  have hm2 : ver + m - ver = m := by omega
  rw [hm2] at hg ⊢
  have hk := Sl.drop hsl (k := k) (by omega)
  have hkl : (evs.flatMap Ev.cells).drop (k * 4) = (evs.drop k).flatMap Ev.cells := drop_flat Ev.cells (fun _ => rfl) evs k
  rw [hkl, hg, Nat.add_sub_cancel_left] at hk
  rw [hg] at d3 hc
  have g1 : ¬ ((ver : Int) + (m : Int) < (ver : Int)) := by omega
  have g2 : (ver : Int) + (m : Int) - (ver : Int) = m := by omega
  have g3 : (m : Int) < 1000000000 := by omega
  have g4 : ¬ ((k : Int) + (m : Int) < (m : Int)) := by omega
  have g5 : (k : Int) + (m : Int) ≤ 1024 := by omega
  have g6 : (k : Int) + (m : Int) - (m : Int) = k := by omega
  rw [Int.natCast_add] at d2
  have hmb : m * 40 ≤ 140737488355328 := by omega
  have HK := Lib.hid (show ∀ (w' : World), Below w.heap.size w w' → Sl w' 4 _ m _ from fun w' hb => hk.below hb)
  have HB := Lib.hid hmb
  have H1 := Lib.hid (evs_one (evs.drop k))
  clear h hn hl hlen hA hv hg hsl hk hkl hm2 hmb
  go_enter Try.func10, Try.ntmps10
  go_wp2_with fail
  refine wp_region_reads 13 1 (fun w' => w'.cell? ⟨p, 3, none⟩ = some (.slice A (k + m) c)) (by kernel_rfl) (by kernel_rfl) (fun c a d v w h => by cases d <;> exact h) d3 ?_
  simp only [List.take_succ_cons, List.take_zero, List.drop_succ_cons, List.drop_zero]
  have e1 : IntKind.u64.wrap ((k : Int) + (m : Int)) = (k : Int) + (m : Int) := by
    rw [← Int.natCast_add]
    exact wrap_u64_nat (by omega)
  have e2 : IntKind.u64.wrap ((k : Int) + (m : Int) - (m : Int)) = (k : Int) := by
    rw [g6]
    exact wrap_u64_nat (by omega)
  have e3 : (k : Int) ≤ (k : Int) + (m : Int) := by omega
  have e4 : IntKind.u64.wrap (k : Int) = (k : Int) := wrap_u64_nat (by omega)
  iterate 13
    refine reads_step (v := ?_) (by rfl) (fun w' hS => ?_) ?_
    rotate_left
    · go_simp
      try simp only [e1, e2, e4, e3, if_true, Int.toNat_natCast, Nat.add_sub_cancel_left]
      with_reducible rfl
    simp only [Act.put, List.setIfInBounds_toArray, List.set_cons_zero, List.set_cons_succ]
  refine reads_nil ?_
  generalize (if c = k then A else Option.map (fun x => x.add (k * 4)) A) = A2 at HK ⊢
  have CC := clone_ev m _ _ w.drew (HK.out w (Below.refl _ _)).drew H1.out HB.out
  refine early_step rfl (by rfl) ?_
  unfold Oper.wp
  rw [show (execOp _ _).run Try.prog w.drew = .ok (.enter 22 #[_]) w.drew from by go_simp; with_reducible rfl]
  refine Calls.mono CC fun e w' he => ?_
  obtain ⟨v', rfl, hO, hB0, hz⟩ := he
  clear hz
  have hB : Below w.heap.size w w' := ⟨hB0.os, hB0.tape, hB0.output, hB0.size, hB0.block⟩
  clear hB0
  have s3 := hB.cell (p := ⟨p, 3, none⟩) (World.block_lt_of_cell? _ _ d3)
  refine ⟨s3.trans d3, ?_⟩
  simp only [wpEarly]
  simp only [Act.put, List.setIfInBounds_toArray, List.set_cons_zero, List.set_cons_succ]
  clear CC d3 s3
  have HO := Lib.hid hO
  have HBB := Lib.hid hB
  clear hO hB e1 e2 e3 e4 g2 g6
  go_wp2_with fail
  go_ret2
  exact ⟨_, rfl, HO.out, HBB.out⟩
end
end Go.Proofs.Ytibekpfffimojaa
