/-
  Contracts of package trend's right and check, at samples that may be. Conditions: those named in each.
-/
import Derived.Test.YtalmhnimmhgloaaCh
import Derived.Test.YtalmhnimmhgloaaTr
import Derived.Deep.QuietTactic
import Derived.BigQuiet
import Derived.Outline
import Derived.IntWalk
namespace Go.Proofs.Ytalmhnimmhgloaa
open Go.RowKit Go.Proofs.Mem LineLaw
set_option linter.unusedVariables false
set_option linter.unusedSimpArgs false
def LineLaw.Smp.cells (s : Smp) : List Value := [.int .i64 s.at', .int .i64 s.v]
def first : List Smp → Int
  | [] => 0
  | s :: _ => s.at'
/-- Samples of which a line is made. -/
structure OkL (l : List Smp) : Prop where
  two : 2 ≤ l.length
  most : l.length ≤ 32
  at0 : ∀ s ∈ l, 0 ≤ s.at'
  at1 : ∀ s ∈ l, s.at' ≤ 4611686018427387904
  v0 : ∀ s ∈ l, 0 ≤ s.v
  v1 : ∀ s ∈ l, s.v ≤ 4294967296
  asc : ∀ (i : Nat) (h : i + 1 < l.length), (l[i]'(by omega)).at' < l[i + 1].at'
  near : ∀ s ∈ l, s.at' - first l ≤ 65536
theorem first_eq (l : List Smp) (h : 0 < l.length) : first l = l[0].at' := by
  match l, h with
  | a :: l, _ => rfl
theorem OkL.ge {l : List Smp} (h : OkL l) : ∀ (i : Nat) (hi : i < l.length), first l ≤ l[i].at'
  | 0, hi => by rw [first_eq l hi]; omega
  | i + 1, hi => by have := h.ge i (by omega); have := h.asc i hi; omega
theorem OkL.first0 {l : List Smp} (h : OkL l) : 0 ≤ first l ∧ first l ≤ 4611686018427387904 := by
  have := h.two
  rw [first_eq l (by omega)]
  exact ⟨h.at0 _ (List.getElem_mem _), h.at1 _ (List.getElem_mem _)⟩
theorem OkL.few {l : List Smp} (h : OkL l) : Few (pts l (first l)) := by
  intro p hp
  unfold pts at hp
  rw [List.mem_map] at hp
  obtain ⟨s, hs, rfl⟩ := hp
  obtain ⟨i, hi, rfl⟩ := List.mem_iff_getElem.1 hs
  have a := h.ge i hi
  have b := h.near _ hs
  exact ⟨by simp; omega, by simp; omega, h.v0 _ hs, h.v1 _ hs⟩
theorem OkL.good {l : List Smp} (h : OkL l) : LineLaw.Good (T l (first l) l.length) := by
  refine good_of h.few h.two h.most ?_
  have h2 := h.two
  unfold T
  have hp : (pts l (first l)).take l.length = pts l (first l) := List.take_of_length_le (by simp [pts])
  rw [hp]
  match l, h, h2 with
  | a :: b :: l, h, _ =>
    have := under_two (a.at' - first (a :: b :: l), a.v) (b.at' - first (a :: b :: l), b.v) (pts l (first (a :: b :: l))) (by have := h.asc 0 (by simp); simp at this; simp; omega)
    exact this
set_option maxHeartbeats 1000000 in
set_option maxRecDepth 100000 in
theorem right_any (l : List Smp) (v : Value) (w : World) (h : OkL l) (hv : Sl w 2 v l.length (l.flatMap Smp.cells)) (i : Nat) (hi : i < l.length) :
    Calls Try.prog 68 #[v, .int .i64 i] w fun e w' => e = .returned (.bool true) ∧ Below w.heap.size w w' := by
  obtain ⟨A, cp, rfl, hcp, _⟩ := id hv
  obtain ⟨b, o, rfl, hbl, hadd, hcell⟩ := Sl.row' (f := Smp.cells) (fun _ => rfl) (by omega) hv i hi
  have a0 : w.cell? ⟨b, o + i * 2, none⟩ = _ := hcell 0 _ rfl
  have a1 := hcell 1 _ rfl
  have hm := List.getElem_mem hi
  have t0 := h.at0 _ hm
  have t1 := h.at1 _ hm
  have v0 := h.v0 _ hm
  have v1 := h.v1 _ hm
  have b0 : decide ((0 : Int) ≤ l[i].at') = true := decide_eq_true t0
  have b1 : decide (l[i].at' ≤ 4611686018427387904) = true := decide_eq_true t1
  have ml := h.most
  rcases Nat.eq_zero_or_pos i with h0 | h0
  · have hz : ((i : Int) == 0) = true := by simp [h0]
    clear hcell hm hadd
    generalize l[i] = x at a0 a1 t0 t1 v0 v1 b0 b1
    rw [h0, Nat.zero_mul, Nat.add_zero] at a0 a1
    go_enter Try.func68, Try.ntmps68
    go_wp2_with fail
    go_quiet ((go_at_call 41; exact Calls.quiet_of_same ((qright_t _ _ v0 (by omega)).mono fun _ _ ⟨a, b⟩ => ⟨a, b.symm⟩)))
    go_wp2_with fail
    go_ret
    exact ⟨rfl, by have := below_al w (.cells #[.int .i64 x.at', .int .i64 x.v] 71); exact below_drewN this _⟩
  · obtain ⟨j, rfl⟩ : ∃ j, i = j + 1 := ⟨i - 1, by omega⟩
    obtain ⟨b2, o2, eA, _, hadd2, hcell2⟩ := Sl.row' (f := Smp.cells) (fun _ => rfl) (by omega) hv j (by omega)
    injection eA with eA
    injection eA with e1 e2 e3
    subst e1; subst e2
    have d0 : w.cell? ⟨b, o + j * 2, none⟩ = _ := hcell2 0 _ rfl
    have asc := h.asc j hi
    have hz : (((j + 1 : Nat) : Int) == 0) = false := by simp; omega
    have q1 : IntKind.i64.wrap (((j + 1 : Nat) : Int) - 1) = (j : Int) := by rw [IntWalk.i64_in _ (by omega)]; omega
    have q2 : IntKind.i64.wrap ((j : Int) + 1 - 1) = (j : Int) := by rw [IntWalk.i64_in _ (by omega)]; omega
    have q4 : IntKind.i64.wrap (j : Int) = (j : Int) := IntWalk.i64_in _ (by omega)
    have hz2 : ((j : Int) + 1 == 0) = false := by simp; omega
    have q3 : (j : Int) < l.length := by omega
    clear hcell hm hcell2
    generalize l[j + 1] = x at a0 a1 t0 t1 v0 v1 b0 b1 asc
    generalize l[j] = y at d0 asc
    go_enter Try.func68, Try.ntmps68
    go_wp2_with fail
    go_quiet ((go_at_call 41; exact Calls.quiet_of_same ((qright_t _ _ v0 (by omega)).mono fun _ _ ⟨a, b⟩ => ⟨a, b.symm⟩)))
    go_wp2_with fail
    go_ret
    exact ⟨rfl, by have := below_al w (.cells #[.int .i64 x.at', .int .i64 x.v] 71); exact below_drewN this _⟩
end Go.Proofs.Ytalmhnimmhgloaa
