/-
  The first weight of a chart, exactly; what thousandths tell of a chart of one weight.
-/
import Derived.Test.YtjiliegfcljjhaaGreatCh6
namespace Go.Proofs.YtjiliegfcljjhaaGreat
open Go.RowKit Go.Proofs.Mem
set_option linter.unusedVariables false
set_option linter.unusedSimpArgs false
/-- The first weight is put: in a bucket that is told, 2^20 of it. -/
def PutFirst (c F G M H : Nat) (q m : Int) (w : World) (e : Ending) (w' : World) : Prop := e = .returned (.int .i64 0) ∧ (∃ i, i < M ∧ (FirstIs G F M m i ∨ (i + 1 = M ∧ NoneIs G F M m)) ∧ Ch w' c F G M H ((List.replicate M 0).set i 1048576) q true) ∧ Below c w w' ∧ ∀ g, g < w.heap.size → g ≠ c → g ≠ c + 1 → w'.heap[g]? = w.heap[g]?
set_option maxHeartbeats 1000000 in
set_option maxRecDepth 100000 in
theorem put_first_is (w : World) (c F G M H : Nat) (p : Int) (t m : Int) (h : Ch w c F G M H (List.replicate M 0) p false) (hM : M ≤ 64) (hM0 : 1 ≤ M) (hH : 1 ≤ H) (hH2 : H ≤ 1800)
    (m0 : 0 ≤ m) (m1 : m ≤ 9007199254740992) (t0 : 0 ≤ t) (t1 : t ≤ 4611686018427387904) :
    Calls Tryz.prog 23 #[.pointer (some ⟨c + 1, 0, none⟩), .int .i64 t, .int .i64 m, .int .i64 1] w (PutFirst c F G M H (t / (H : Int)) m w) := by
  have q0 : 0 ≤ t / (H : Int) := Int.ediv_nonneg t0 (by omega)
  have q1 : t / (H : Int) ≤ 4611686018427387904 := Int.le_trans (Int.ediv_le_self _ t0) t1
  obtain ⟨c3, c5, c6, c7, f6, f7⟩ := h.hd
  have hH' : (1 : Int) ≤ H := by omega
  have hH2' : (H : Int) ≤ 1800 := by omega
  go_enter Tryz.func23, Tryz.ntmps23
  go_wp2_with (first
    | (go_at_call 39; refine (qright_t m _ m0 m1).mono ?_; rintro e w1 ⟨rfl, rfl⟩)
    | (go_at_call 40; refine (between_t 1 1 1000 _ (by omega) (by omega)).mono ?_; rintro e w1 ⟨rfl, rfl⟩))
  generalize hq : t / (H : Int) = q at q0 q1 ⊢
  have hC := (h.setP q).setMet true
  have hBl : Below c w ((w.setCell ⟨c + 1, 6, none⟩ (.int .i64 q)).setCell ⟨c + 1, 7, none⟩ (.bool true)) := ((Below.refl _ _).setCell (by simp) _).setCell (by simp) _
  have hF2 : ∀ g, g < w.heap.size → g ≠ c + 1 → ((w.setCell ⟨c + 1, 6, none⟩ (.int .i64 q)).setCell ⟨c + 1, 7, none⟩ (.bool true)).heap[g]? = w.heap[g]? := fun g _ h => (Below.heap_setCell _ _ _ _ h).trans (Below.heap_setCell _ _ _ _ h)
  generalize (w.setCell ⟨c + 1, 6, none⟩ (.int .i64 q)).setCell ⟨c + 1, 7, none⟩ (.bool true) = w2 at hC hBl hF2 ⊢
  refine (bucket_any _ c F G M H _ q true m hC hM hM0 m0 m1).mono ?_
  rintro e w3 ⟨⟨i, rfl, hi, hin⟩, hb3⟩
  have hC3 := hC.below hb3
  have hF3 : ∀ g, g < w.heap.size → g ≠ c + 1 → w3.heap[g]? = w.heap[g]? := fun g h1 h2 => (hb3.block g (Nat.lt_of_lt_of_le h1 hBl.size)).trans (hF2 g h1 h2)
  have hBl3 := hBl.trans (hb3.mono (by have := hC.lt; omega))
  clear hb3 hF2 hC hBl c3 c5 c6 c7 f6 f7 h
  have hl3 := hC3.lt
  obtain ⟨c3, c5, c6, c7, f6, f7⟩ := hC3.hd
  obtain ⟨x, hxm, d, fi⟩ := hC3.wat hi
  obtain rfl : x = 0 := List.eq_of_mem_replicate hxm
  clear hxm
  have hi' : (i : Int) < M := by omega
  have HI := Lib.hid hin
  have HF3 := Lib.hid hF3
  clear hF3
  clear hin
  go_wp2_with fail
  go_still_tail 26, (by kernel_rfl)
  change wpList _ _ _ _ _ w3.drew
  go_wp2_with fail
  go_ret
  have E : min (IntKind.u64.wrap (IntKind.u64.wrap (1 * 2 ^ min (20 - 0) 64))) 144115188075855872 = ((1048576 : Nat) : Int) := by decide +kernel
  rw [E]
  unfold PutFirst
  rw [hq]
  refine ⟨rfl, ⟨i, hi, HI.out, ?_⟩, ?_, fun g h1 h2 h3 => (Below.heap_setCell w3 _ _ _ h2).trans (HF3.out g h1 h3)⟩
  · have hC2 := hC3.setW i 1048576
    obtain ⟨ev, h1, h2, h3, h4⟩ := hC2
    exact ⟨ev, h1.drew, h2.drew, h3, h4⟩
  · exact (hBl3.setCell (by simp) _).drew
end Go.Proofs.YtjiliegfcljjhaaGreat
