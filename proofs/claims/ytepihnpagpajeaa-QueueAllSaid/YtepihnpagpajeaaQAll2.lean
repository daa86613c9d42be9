/-
  The walk of a queue's Len where nothing is there.
-/
import Derived.Test.YtepihnpagpajeaaQAll1
import Derived.Maps.RangeWalk
namespace Go.Proofs.Ytepihnpagpajeaa
open Go.RowKit Go.Proofs.Mem
open Go.Maps (Keyed string_keyed)
set_option linter.unusedVariables false
set_option linter.unusedSimpArgs false
theorem size_empty {w : World} {b n : Nat} {D : DataW Value} (hm : Mp Try.prog w 9 b n D) (h : ∀ k, Maps.has D (.string k) = false) : Maps.size D = 0 := by
  rw [← hm.len_keys, List.length_eq_zero_iff, List.eq_nil_iff_forall_not_mem]
  intro x hx
  have := (hm.mem_keys strKq Try.underlying9 x).1 hx
  rw [h x] at this
  cases this
set_option maxHeartbeats 1000000 in
theorem qlen_empty (w : World) (q b f n m : Nat) (c0 c1 c2 : Int) (D F : DataW Value) (h : QIs w q b f n m c0 c1 c2 D F) (hno : ∀ k, Maps.has D (.string k) = false) :
    Calls Try.prog 23 #[.pointer (some ⟨q, 0, none⟩)] w fun e w' => e = .returned (.tuple #[.int .i64 0, .int .i64 0]) ∧ Below w.heap.size w w' := by
  have hm := h.2.2.2.1
  have hz := Lib.hid (size_empty hm hno)
  have HQ := Lib.hid h
  obtain ⟨d0, d1, d2, d3, d4⟩ := h.cells
  clear h hno
  go_enter Try.func23, Try.ntmps23
  go_wp2_with (at_range; refine wpList_range_own _ rfl _ 154 rfl 9 153 strKq Try.underlying154 asIs b n D rfl hm ?_; intro w1 hrg1 hg1 hs1)
  have HG := Lib.hid hg1
  have HS := Lib.hid hs1
  have HR := Lib.hid hrg1
  clear hg1 hs1 hrg1
  go_frame
  refine wp_loop_rounds 1 ?_
  rw [rounds_succ]
  go_wp2_with (at_next; refine wpList_next_ranges _ rfl _ rfl 9 strKq asIs (fun l : List UInt8 => Value.string ⟨l.toArray⟩) (fun v : Value => v) (fun key kl hk => by obtain ⟨x, hx, _⟩ := Maps.keyOf_str Try.underlying9 hk; exact ⟨x, hx⟩) (fun v y hv => ⟨v, rfl⟩) b w.heap.size n D _ _ rfl HR.out ?_ ?_)
  · intro h0 hl0
    have HL0 := Lib.hid hl0
    clear hl0 h0
    have hB1 : Below w.heap.size w w1 := ⟨HG.out.os, HG.out.tape, HG.out.output, HG.out.size, fun k hk => HG.out.block k hk (by simp)⟩
    have HQ1 := Lib.hid (HQ.out.below hB1)
    obtain ⟨d0, d1, d2, d3, d4⟩ := HQ1.out.cells
    have hlen : ∀ ty, (Builtin.len_ #[154] ty #[.map (some b)]).run Try.prog w1 = .ok (.int .i64 0) w1 := fun ty => by
      have := World.ownsMap.len HQ1.out.2.2.2.1 Try.underlying154 ty
      rw [hz.out] at this
      exact this
    have HB1 := Lib.hid hB1
    clear hB1 hm
    go_wp2_with fail
    go_ret2
    exact ⟨rfl, HB1.out⟩
  · intro x c kl y yp w' cnt' hkey hlk hv hat hrg hlt
    have := hz.out
    omega
end Go.Proofs.Ytepihnpagpajeaa
