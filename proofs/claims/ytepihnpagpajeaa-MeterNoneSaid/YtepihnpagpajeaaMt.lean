/-
  The walks of package meter: a tick, what a dial has counted, a new meter.
-/
import Derived.Test.YtepihnpagpajeaaWide
import Derived.Test.YtepihnpagpajeaaMaps
import Derived.Test.YtepihnpagpajeaaLName
import Derived.Deep.RegionHeld3
import Derived.Outline
namespace Go.Proofs.Ytepihnpagpajeaa
open Go.RowKit Go.Proofs.Mem
open Go.Maps (Keyed string_keyed)
set_option linter.unusedVariables false
set_option linter.unusedSimpArgs false
/-- What a dial answers. -/
def atV (T : Int) : Value := if T ≤ 9223372036854775807 then .tuple #[.int .u64 T, .int .i64 0] else .tuple #[.int .u64 0, .int .i64 4]
theorem keepB {W w1 w2 : World} {g : Nat} {a b c : Value} (hg : g < W.heap.size) (hS : w1.cell? ⟨g, 0, none⟩ = some a ∧ w1.cell? ⟨g, 1, none⟩ = some b ∧ w1.cell? ⟨g, 2, none⟩ = some c ∧ Below W.heap.size W w1) (hb : Below w1.heap.size w1 w2) :
    w2.cell? ⟨g, 0, none⟩ = some a ∧ w2.cell? ⟨g, 1, none⟩ = some b ∧ w2.cell? ⟨g, 2, none⟩ = some c ∧ Below W.heap.size W w2 := by
  obtain ⟨h0, h1, h2, hW⟩ := hS
  have hs := hW.size
  have hl : g < w1.heap.size := by omega
  exact ⟨(hb.cell (p := ⟨g, 0, none⟩) hl).trans h0, (hb.cell (p := ⟨g, 1, none⟩) hl).trans h1, (hb.cell (p := ⟨g, 2, none⟩) hl).trans h2, hW.trans (hb.mono hs)⟩
theorem keepBAl {W w1 : World} {g : Nat} {a b c : Value} (hg : g < W.heap.size) (hS : w1.cell? ⟨g, 0, none⟩ = some a ∧ w1.cell? ⟨g, 1, none⟩ = some b ∧ w1.cell? ⟨g, 2, none⟩ = some c ∧ Below W.heap.size W w1) (o : Obj) :
    (w1.alloc o).cell? ⟨g, 0, none⟩ = some a ∧ (w1.alloc o).cell? ⟨g, 1, none⟩ = some b ∧ (w1.alloc o).cell? ⟨g, 2, none⟩ = some c ∧ Below W.heap.size W (w1.alloc o) :=
  keepB hg hS ((Below.refl _ _).alloc (Nat.le_refl _) o)
theorem keepBSt {W w1 wX : World} {g k : Nat} {a b c v : Value} (hg : g < W.heap.size) (hS : w1.cell? ⟨g, 0, none⟩ = some a ∧ w1.cell? ⟨g, 1, none⟩ = some b ∧ w1.cell? ⟨g, 2, none⟩ = some c ∧ Below W.heap.size W w1)
    (hX : wX.cell? ⟨g, 0, none⟩ = some a ∧ wX.cell? ⟨g, 1, none⟩ = some b ∧ wX.cell? ⟨g, 2, none⟩ = some c ∧ Below W.heap.size W wX) :
    (w1.setCell ⟨wX.heap.size, k, none⟩ v).cell? ⟨g, 0, none⟩ = some a ∧ (w1.setCell ⟨wX.heap.size, k, none⟩ v).cell? ⟨g, 1, none⟩ = some b ∧ (w1.setCell ⟨wX.heap.size, k, none⟩ v).cell? ⟨g, 2, none⟩ = some c ∧ Below W.heap.size W (w1.setCell ⟨wX.heap.size, k, none⟩ v) := by
  obtain ⟨h0, h1, h2, hW⟩ := hS
  have hz := hX.2.2.2.size
  have hn : ∀ i, (w1.setCell ⟨wX.heap.size, k, none⟩ v).cell? ⟨g, i, none⟩ = w1.cell? ⟨g, i, none⟩ := fun i => World.cell?_setCell_other _ _ _ _ (fun e => by injection e with e1; omega)
  exact ⟨(hn 0).trans h0, (hn 1).trans h1, (hn 2).trans h2, hW.setCell (by simpa using hz) v⟩
theorem bcell {W w1 : World} (hb : Below W.heap.size W w1) : (∀ b o, b < W.heap.size → w1.cell? ⟨b, o, none⟩ = W.cell? ⟨b, o, none⟩) ∧ (∀ b o, b < W.heap.size → w1.frozen? ⟨b, o, none⟩ = W.frozen? ⟨b, o, none⟩) :=
  ⟨fun b o h => hb.cell (p := ⟨b, o, none⟩) h, fun b o h => hb.frozen (p := ⟨b, o, none⟩) h⟩
set_option maxHeartbeats 2000000 in
set_option maxRecDepth 100000 in
theorem at_any (s i now : Nat) (c : Nat) (w : World) (hs : s ≤ 1000000) (hi : i ≤ now) (hn : now ≤ 4611686018427387904) (hc : c ≤ 9223372036854775807) :
    Calls Try.prog 52 #[.agg #[.int .i64 s, .int .i64 i, .int .u64 c], .int .i64 now] w fun e w' => e = .returned (atV (s * (now - i : Nat) + c : Nat)) ∧ Below w.heap.size w w' := by
  obtain ⟨d, hd⟩ : ∃ d, d = now - i := ⟨_, rfl⟩
  rw [← hd]
  have q1 : (now : Int) - (i : Int) = (d : Int) := by omega
  have q2 : IntKind.i64.wrap (d : Int) = (d : Int) := IntWalk.i64_in _ (by omega)
  have q3 : IntKind.u64.wrap (d : Int) = (d : Int) := IntWalk.u64_in _ (by omega)
  have q4 : IntKind.u64.wrap (s : Int) = (s : Int) := IntWalk.u64_in _ (by omega)
  have C1 := Lib.hid (fun w1 => wof_any s d w1 (by omega) (by omega))
  have C2 := fun (ah al : Nat) (w1 : World) h1 h2 => wadd_any ah al 0 c w1 h1 h2 (by omega) (by omega)
  simp only [Int.natCast_zero] at C2
  have CA := Lib.hid C2
  clear C2
  have b1 : (0 : Int) ≤ s := by omega
  have b2 : (s : Int) ≤ 1000000 := by omega
  have b3 : (0 : Int) ≤ d := by omega
  have b4 : (d : Int) ≤ 4611686018427387904 := by omega
  have b5 : (c : Int) ≤ 9223372036854775807 := by omega
  have HC := Lib.hid hc
  have hs' := hs
  have hd' : d ≤ 4611686018427387904 := by omega
  clear hc hd hs hi hn
  obtain ⟨K, hK⟩ : ∃ K, K = s * d := ⟨_, rfl⟩
  rw [← hK] at C1 ⊢
  have hKb : K ≤ 1000000 * 4611686018427387904 := by rw [hK]; exact Nat.mul_le_mul hs' hd'
  have HF : ∀ k h l : Nat, K + c = k * 340282366920938463463374607431768211456 + h * 18446744073709551616 + l → (0 < (h : Int) ∧ atV ((K + c : Nat) : Int) = .tuple #[.int .u64 0, .int .i64 4]) ∨ ((h : Int) ≤ 0 ∧ 9223372036854775807 < (l : Int) ∧ atV ((K + c : Nat) : Int) = .tuple #[.int .u64 0, .int .i64 4]) ∨ ((h : Int) ≤ 0 ∧ (l : Int) ≤ 9223372036854775807 ∧ atV ((K + c : Nat) : Int) = .tuple #[.int .u64 l, .int .i64 0]) := by
    intro k h l e
    unfold atV
    by_cases h0 : 0 < h
    · left; exact ⟨by omega, by rw [if_neg (by omega)]⟩
    · by_cases h1 : 9223372036854775807 < l
      · right; left; exact ⟨by omega, by omega, by rw [if_neg (by omega)]⟩
      · right; right
        refine ⟨by omega, by omega, ?_⟩
        have e2 : K + c = l := by omega
        rw [if_pos (by omega), e2]
  clear hK hKb hs' hd'
  obtain ⟨R, hR⟩ : ∃ R, R = atV ((K + c : Nat) : Int) := ⟨_, rfl⟩
  rw [← hR] at HF ⊢
  clear hR
  go_enter Try.func52, Try.ntmps52
  go_wp2_with fail
  have kF := Bk.new w 131 #[.int .i64 s, .int .i64 i, .int .u64 c]
  have hB1 := (Below.refl w.heap.size w).alloc (Nat.le_refl _) (.cells #[.int .i64 s, .int .i64 i, .int .u64 c] 131)
  generalize w.alloc (.cells #[.int .i64 s, .int .i64 i, .int .u64 c] 131) = w1 at kF hB1 ⊢
  have f0 := kF.cell 0
  have f1 := kF.cell 1
  have f2 := kF.cell 2
  have hg := kF.lt
  have hS0 : w1.drew.cell? ⟨w.heap.size, 0, none⟩ = some (.int .i64 s) ∧ w1.drew.cell? ⟨w.heap.size, 1, none⟩ = some (.int .i64 i) ∧ w1.drew.cell? ⟨w.heap.size, 2, none⟩ = some (.int .u64 c) ∧ Below w1.heap.size w1 w1.drew := ⟨f0, f1, f2, (Below.refl w1.heap.size w1).drew⟩
  go_region_held3 (fun w' => w'.cell? ⟨w.heap.size, 0, none⟩ = some (.int .i64 s) ∧ w'.cell? ⟨w.heap.size, 1, none⟩ = some (.int .i64 i) ∧ w'.cell? ⟨w.heap.size, 2, none⟩ = some (.int .u64 c) ∧ Below w1.heap.size w1 w')
    (first | (with_reducible exact hS9) | (with_reducible exact hS8) | (with_reducible exact keepBAl hg hS9 _) | (with_reducible exact keepBAl hg hS8 _) | (with_reducible exact keepBAl hg (by assumption) _) | (exact keepBSt hg (wX := w2) (keepBSt hg (wX := w2) hS9 hS8) hS8) | (exact keepBSt hg (wX := w1.drew) (keepBSt hg (wX := w1.drew) hS9 hS0) hS0) | (exact hS0) | (exact keepBAl hg (w1 := w1.drew) hS0 _))
    (first
      | (go_at_call 56; refine (C1.out _).mono ?_; rintro e w2 ⟨ah, al, rfl, hA, ah1, al1, hb9⟩; have hS8 := keepB hg (by with_reducible assumption) hb9; have HA := Lib.hid (And.intro hA (And.intro ah1 al1)); clear hA ah1 al1; (try have Z9 := ((Bk.new w1 144 #[.int .u64 0, .int .u64 0]).drew).below' hb9))
      | (go_at_call 55; refine (CA.out ah al _ HA.out.2.1 HA.out.2.2).mono ?_; rintro e w3 ⟨h, l, k, rfl, hN, hh, hl, hk, hb9⟩; have hS9 := keepB hg (by with_reducible assumption) hb9; have HN := Lib.hid (And.intro hN (And.intro hh (And.intro hl hk))); clear hN hh hl hk;
          (try ((first | (have ZA := Z9.below' hb9) | (have ZA := (Bk.new w2 144 #[.int .u64 0, .int .u64 0]).below' hb9)); have z0 := ZA.cell 0; have z1 := ZA.cell 1; have z2 := ZA.frozen 0; have z3 := ZA.frozen 1))))
  all_goals
    have hcase := HF k h l (by have := HA.out; have := HN.out; omega)
    rcases hcase with ⟨h1, hR⟩ | ⟨h1, h2, hR⟩ | ⟨h1, h2, hR⟩
    all_goals
      have HR := Lib.hid hR
      clear hR HF
      go_wp2_with fail
      go_ret2
      refine ⟨by rw [HR.out]; rfl, hB1.trans (Below.mono (B := w1.heap.size) ?_ hB1.size)⟩
      first | exact (keepBAl hg hS9 _).2.2.2 | exact (keepBSt hg (wX := w2) (keepBSt hg (wX := w2) hS9 hS8) hS8).2.2.2 | exact (keepBSt hg (wX := w1.drew) (keepBSt hg (wX := w1.drew) hS9 hS0) hS0).2.2.2
end Go.Proofs.Ytepihnpagpajeaa
