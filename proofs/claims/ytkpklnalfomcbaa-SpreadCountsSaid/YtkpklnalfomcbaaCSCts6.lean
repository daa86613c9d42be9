/-
  Spread's sort: symMerge at choices; Spread's sort: stable, SortStableFunc at choices: what comes back is sorted.; Spread's sort: slices.SortStableFunc at a row of the call's own: the same choices, in order.; Spread: Check, fits, Pick; Spread: the law's own nodes and pods; rows of objects built.; Spread: the law's example lives.; Spread: trimtablaw33.lives is true.; A row of objects, as an argument reads.
-/
import Derived.Test.YtkpklnalfomcbaaCSCts5
import Derived.Test.YtkpklnalfomcbaaCSCts3
import Derived.Great.FillDense
import Derived.Great.BuildSlice
import Derived.Test.YtkpklnalfomcbaaCSCts1
section
namespace Go.Proofs.Ytkpklnalfomcbaa
open Go.RowKit Go.Proofs.Mem Go.Shelf Go.Sort Go.Lib
set_option linter.unusedVariables false
set_option linter.unusedSimpArgs false
section
variable {w0 W : World} {blk off cap a b n m : Nat} {d0 d : Array Chc}
theorem sw_grown (h : SWf w0 blk off d W) (n : Nat) (os : Array Obj) : SWf w0 blk off d (grow (W.drewN n) os) := by
  obtain ⟨m, os0, rfl⟩ := h
  exact ⟨m + n, os0 ++ os, sortWorldK_grown_c encC 2 w0 blk off m n d os0 os⟩
theorem sw_z0 (hB : Base w0 blk off d0) (h : SWf w0 blk off d W) (hs : d.size = d0.size) {p : Nat} (hp : p < d0.size) (n : Nat) (os : Array Obj) : (grow (W.drewN n) os).cell? ⟨blk, off + p * 2, none⟩ = some (.string d[p]!.1) :=
  (hold2 (SWK.holds (sw_grown h n os) hB.b hB.H hs) (by omega)).1
theorem sw_z1 (hB : Base w0 blk off d0) (h : SWf w0 blk off d W) (hs : d.size = d0.size) {p : Nat} (hp : p < d0.size) (n : Nat) (os : Array Obj) : (grow (W.drewN n) os).cell? ⟨blk, off + p * 2 + 1, none⟩ = some (.int .i64 d[p]!.2) :=
  (hold2 (SWK.holds (sw_grown h n os) hB.b hB.H hs) (by omega)).2.1
theorem sw_swp (hB : Base w0 blk off d0) (h : SWf w0 blk off d W) (hs : d.size = d0.size) {i j : Nat} (hi : i < d0.size) (hj : j < d0.size) {pA pB : Nat} (hpA : off + i * 2 = pA) (hpB : off + j * 2 = pB) {xA xB : Chc} (hxA : d[i]! = xA) (hxB : d[j]! = xB) :
    SWf w0 blk off (swp d i j) ((((W.setCell ⟨blk, pA, none⟩ (.string xB.1)).setCell ⟨blk, pA + 1, none⟩ (.int .i64 xB.2)).setCell ⟨blk, pB, none⟩ (.string xA.1)).setCell ⟨blk, pB + 1, none⟩ (.int .i64 xA.2)).drew := by
  subst hpA
  subst hpB
  subst hxA
  subst hxB
  exact SWK.swap (SWK.drewN h 1) encC_len hB.b i j (by omega) (by omega)
end
theorem lt_of_cf {x y : Chc} (h : cfC x y < 0) : ltC x y = true := by rw [← ltOf_cf]; exact decide_eq_true h
theorem nlt_of_cf {x y : Chc} (h : ¬ cfC x y < 0) : ltC x y = false := by rw [← ltOf_cf]; exact decide_eq_false h
def SymOk (w0 : World) (blk off : Nat) (d : Array Chc) (a b : Nat) (w' : World) : Prop := ∃ d', SWf w0 blk off d' w' ∧ PermIn a b d d' ∧ SortedIn ltC a b d'
set_option maxHeartbeats 8000000 in
set_option maxRecDepth 100000 in
theorem sym_lo {w0 W : World} {blk off cap a m b : Nat} {d0 d : Array Chc} (hB : Base w0 blk off d0) (h : SWf w0 blk off d W) (hs : d.size = d0.size) (hm : m = a + 1) (hmb : m < b) (hb : b ≤ d0.size) (hS : SortedIn ltC m b d) :
    Calls Try.prog 61 #[.slice (some ⟨blk, off, none⟩) d0.size cap, .int .i64 a, .int .i64 m, .int .i64 b, .func (.func 27) #[] #[]] W fun e w' => e = .returned (.tuple #[]) ∧ SymOk w0 blk off d a b w' := by
  have HB := Lib.hid hB
  have hma : (m : Int) - a = 1 := by omega
  have HS := Lib.hid (And.intro hs (show SortedIn ltC (a + 1) b d by rw [← hm]; exact hS))
  have hz := hB.z
  have mixed : Try.prog.follows .mixedOrders = true := by kernel_rfl
  have h0 := Lib.hid h
  clear hB h hs hS hm
  go_enter Try.func61, Try.ntmps61
  go_wp2_with fail
  go_loopw [10, 11] (fun vi vj W' => ∃ (i j : Nat), vi = .int .i64 i ∧ vj = .int .i64 j ∧ a + 1 ≤ i ∧ i ≤ j ∧ j ≤ b ∧ Hid (SWf w0 blk off d W' ∧ (∀ q, a + 1 ≤ q → q < i → ltC d[q]! d[a]! = true) ∧ (∀ q, j ≤ q → q < b → ltC d[q]! d[a]! = false))) (fun vi vj _ => (intOf vj).toNat - (intOf vi).toNat)
  case atStart => exact ⟨m, b, rfl, rfl, by omega, by omega, Nat.le_refl _, Lib.hid ⟨h0.out, fun q h1 h2 => by omega, fun q h1 h2 => by omega⟩⟩
  case round =>
    clear h0
    obtain ⟨i, j, rfl, rfl, hai, hij, hjb, hJ⟩ := hrel
    by_cases hlt : i < j
    · obtain ⟨h, hh⟩ : ∃ h : Nat, (h : Int) = ((i : Int) + j) / 2 := ⟨(i + j) / 2, by push_cast; rfl⟩
      have h3 : i ≤ h := by omega
      have h4 : h < j := by omega
      have eh := hh.symm
      clear hh
      obtain ⟨xh, hxh⟩ : ∃ x, d[h]! = x := ⟨_, rfl⟩
      obtain ⟨xa, hxa⟩ : ∃ x, d[a]! = x := ⟨_, rfl⟩
      have z0 := sw_z0 HB.out hJ.out.1 HS.out.1 (p := h) (by omega)
      have z1 := sw_z1 HB.out hJ.out.1 HS.out.1 (p := h) (by omega)
      have z2 := sw_z0 HB.out hJ.out.1 HS.out.1 (p := a) (by omega)
      have z3 := sw_z1 HB.out hJ.out.1 HS.out.1 (p := a) (by omega)
      rw [hxh] at z0 z1
      rw [hxa] at z2 z3
      have HX := Lib.hid (And.intro hxh hxa)
      clear hxh hxa
      have g1 : (h : Int) < d0.size := by omega
      have g2 : (a : Int) < d0.size := by omega
      by_cases hlv : cfC xh xa < 0
      · go_wp2_with fail
        go_quiet_grown (first | (go_at_call 27; refine Calls.grown_of (pick1_any xh xa _)))
        have hS2 := sw_grown hJ.out.1 nq osq
        generalize grow (wr.drewN nq) osq = W2 at hS2 ⊢
        have hlt2 := lt_of_cf hlv
        rw [← HX.out.1, ← HX.out.2] at hlt2
        have HE : Hid (SWf w0 blk off d W2 ∧ (∀ q, a + 1 ≤ q → q < h + 1 → ltC d[q]! d[a]! = true) ∧ (∀ q, j ≤ q → q < b → ltC d[q]! d[a]! = false)) := Lib.hid ⟨hS2, fun q h1 h2 => lt_le_trans (sorted_le HS.out.2 h1 (by omega) (by omega)) hlt2, hJ.out.2.2⟩
        clear hS2 hlt2 z0 z1 z2 z3
        go_wp2_with fail
        exact ⟨⟨h + 1, j, by go_num, rfl, by omega, by omega, hjb, HE⟩, by simp [intOf]; omega⟩
      · go_wp2_with fail
        go_quiet_grown (first | (go_at_call 27; refine Calls.grown_of (pick1_any xh xa _)))
        have hS2 := sw_grown hJ.out.1 nq osq
        generalize grow (wr.drewN nq) osq = W2 at hS2 ⊢
        have hlt2 := nlt_of_cf (x := xh) (y := xa) (by omega)
        rw [← HX.out.1, ← HX.out.2] at hlt2
        have HE : Hid (SWf w0 blk off d W2 ∧ (∀ q, a + 1 ≤ q → q < i → ltC d[q]! d[a]! = true) ∧ (∀ q, h ≤ q → q < b → ltC d[q]! d[a]! = false)) := Lib.hid ⟨hS2, hJ.out.2.1, fun q h1 h2 => leC_trans (x := d[a]!) (y := d[h]!) (z := d[q]!) hlt2 (sorted_le HS.out.2 (by omega) h1 h2)⟩
        clear hS2 hlt2 z0 z1 z2 z3
        go_wp2_with fail
        exact ⟨⟨i, h, rfl, rfl, hai, h3, by omega, HE⟩, by simp [intOf]; omega⟩
    · have hje : j = i := by omega
      subst hje
      have HI := Lib.hid hJ.out.2
      have h1 := Lib.hid hJ.out.1
      clear hJ hlt
      go_wp2_with fail
      go_loopw [13] (fun vk W' => ∃ (k : Nat) (cur : Array Chc), vk = .int .i64 k ∧ a ≤ k ∧ k + 1 ≤ j ∧ Hid (SWf w0 blk off cur W' ∧ cur.size = d0.size ∧ cur = shU d a (k - a))) (fun vk _ => j - (intOf vk).toNat)
      case atStart => exact ⟨a, d, rfl, Nat.le_refl _, hai, Lib.hid ⟨h1.out, HS.out.1, by rw [Nat.sub_self]; rfl⟩⟩
      case round =>
        clear h1
        obtain ⟨k, cur, rfl, hak, hkj, hK⟩ := hrel
        by_cases hlt2 : k + 1 < j
        · have gk : (k : Int) < (j : Int) - 1 := by omega
          have gk1 : (k : Int) + 1 < d0.size := by omega
          have gk2 : (k : Int) < d0.size := by omega
          obtain ⟨xA, hxA⟩ : ∃ x, cur[k]! = x := ⟨_, rfl⟩
          obtain ⟨xB, hxB⟩ : ∃ x, cur[k + 1]! = x := ⟨_, rfl⟩
          obtain ⟨a0, a1, a2, a3⟩ := hold2 (i := k) (SWK.holds hK.out.1 HB.out.b HB.out.H hK.out.2.1) (by have := hK.out.2.1; omega)
          obtain ⟨b0, b1, b2, b3⟩ := hold2 (i := k + 1) (SWK.holds hK.out.1 HB.out.b HB.out.H hK.out.2.1) (by have := hK.out.2.1; omega)
          rw [hxA] at a0 a1
          rw [hxB] at b0 b1
          obtain ⟨pA, hpA⟩ : ∃ p, off + (k) * 2 = p := ⟨_, rfl⟩
          obtain ⟨pB, hpB⟩ : ∃ p, off + (k + 1) * 2 = p := ⟨_, rfl⟩
          have n1 : ¬ pB = pA := by omega
          have n2 : ¬ pB = pA + 1 := by omega
          have n3 : ¬ pB + 1 = pA := by omega
          rw [hpA] at a0 a1 a2 a3
          rw [hpB] at b0 b1 b2 b3
          have HSw := Lib.hid (sw_swp HB.out hK.out.1 hK.out.2.1 (i := k) (j := k + 1) (by omega) (by omega) hpA hpB hxA hxB)
          clear hxA hxB
          go_wp2_with fail
          go_big_region_o
          all_goals go_wp2_with fail

          refine ⟨⟨k + 1, swp cur k (k + 1), by go_num, by omega, by omega, Lib.hid ⟨HSw.out, by rw [Sort.size_swp]; exact hK.out.2.1, ?_⟩⟩, by simp [intOf]; omega⟩
          rw [show k + 1 - a = (k - a) + 1 by omega]
          unfold shU
          rw [← hK.out.2.2, show a + (k - a) = k by omega]
        · have gk : ¬ (k : Int) < (j : Int) - 1 := by omega
          have hke : j = k + 1 := by omega
          have HE : Hid (SymOk w0 blk off d a b wr) := by
            refine Lib.hid ⟨cur, hK.out.1, ?_, ?_⟩
            · rw [hK.out.2.2]
              exact shU_perm d a (k - a) (Nat.le_refl _) (by omega) (by rw [HS.out.1]; exact hb)
            · have h := ins_lo (i := j) HS.out.2 hai (by omega) (by rw [HS.out.1]; exact hb) HI.out.1 HI.out.2
              rw [hK.out.2.2, show k - a = j - 1 - a by omega]
              exact h
          clear hK
          go_wp2_with fail
          refine bodyPost_ret (results_none rfl _ _ _) rfl ?_
          exact ⟨rfl, HE.out⟩
set_option maxHeartbeats 8000000 in
set_option maxRecDepth 100000 in
theorem sym_hi {w0 W : World} {blk off cap a m b : Nat} {d0 d : Array Chc} (hB : Base w0 blk off d0) (h : SWf w0 blk off d W) (hs : d.size = d0.size) (hm : b = m + 1) (ham : a < m) (hne : m ≠ a + 1) (hb : b ≤ d0.size) (hS : SortedIn ltC a m d) :
    Calls Try.prog 61 #[.slice (some ⟨blk, off, none⟩) d0.size cap, .int .i64 a, .int .i64 m, .int .i64 b, .func (.func 27) #[] #[]] W fun e w' => e = .returned (.tuple #[]) ∧ SymOk w0 blk off d a b w' := by
  have HB := Lib.hid hB
  have hma : ((m : Int) - a == 1) = false := by
    have : ¬ (m : Int) - a = 1 := by omega
    simpa using this
  have hbm : (b : Int) - m = 1 := by omega
  have HM := Lib.hid hm
  have HS := Lib.hid (And.intro hs hS)
  have hz := hB.z
  have mixed : Try.prog.follows .mixedOrders = true := by kernel_rfl
  have h0 := Lib.hid h
  clear hB h hs hS hm hne
  go_enter Try.func61, Try.ntmps61
  go_wp2_with fail
  go_loopw [14, 15] (fun vi vj W' => ∃ (i j : Nat), vi = .int .i64 i ∧ vj = .int .i64 j ∧ a ≤ i ∧ i ≤ j ∧ j ≤ m ∧ Hid (SWf w0 blk off d W' ∧ (∀ q, a ≤ q → q < i → ltC d[m]! d[q]! = false) ∧ (∀ q, j ≤ q → q < m → ltC d[m]! d[q]! = true))) (fun vi vj _ => (intOf vj).toNat - (intOf vi).toNat)
  case atStart => exact ⟨a, m, rfl, rfl, by omega, by omega, Nat.le_refl _, Lib.hid ⟨h0.out, fun q h1 h2 => by omega, fun q h1 h2 => by omega⟩⟩
  case round =>
    clear h0
    obtain ⟨i, j, rfl, rfl, hai, hij, hjb, hJ⟩ := hrel
    by_cases hlt : i < j
    · obtain ⟨h, hh⟩ : ∃ h : Nat, (h : Int) = ((i : Int) + j) / 2 := ⟨(i + j) / 2, by push_cast; rfl⟩
      have h3 : i ≤ h := by omega
      have h4 : h < j := by omega
      have eh := hh.symm
      clear hh
      obtain ⟨xh, hxh⟩ : ∃ x, d[h]! = x := ⟨_, rfl⟩
      obtain ⟨xm, hxm⟩ : ∃ x, d[m]! = x := ⟨_, rfl⟩
      have z0 := sw_z0 HB.out hJ.out.1 HS.out.1 (p := h) (by omega)
      have z1 := sw_z1 HB.out hJ.out.1 HS.out.1 (p := h) (by omega)
      have z2 := sw_z0 HB.out hJ.out.1 HS.out.1 (p := m) (by omega)
      have z3 := sw_z1 HB.out hJ.out.1 HS.out.1 (p := m) (by omega)
      rw [hxh] at z0 z1
      rw [hxm] at z2 z3
      have HX := Lib.hid (And.intro hxh hxm)
      clear hxh hxm
      have g1 : (h : Int) < d0.size := by omega
      have g2 : (m : Int) < d0.size := by omega
      by_cases hlv : cfC xm xh < 0
      · go_wp2_with fail
        go_quiet_grown (first | (go_at_call 27; refine Calls.grown_of (pick1_any xm xh _)))
        have hS2 := sw_grown hJ.out.1 nq osq
        generalize grow (wr.drewN nq) osq = W2 at hS2 ⊢
        have hlt2 := lt_of_cf hlv
        rw [← HX.out.1, ← HX.out.2] at hlt2
        have HE : Hid (SWf w0 blk off d W2 ∧ (∀ q, a ≤ q → q < i → ltC d[m]! d[q]! = false) ∧ (∀ q, h ≤ q → q < m → ltC d[m]! d[q]! = true)) := Lib.hid ⟨hS2, hJ.out.2.1, fun q h1 h2 => le_lt_trans hlt2 (sorted_le HS.out.2 (by omega) h1 h2)⟩
        clear hS2 hlt2 z0 z1 z2 z3
        go_wp2_with fail
        exact ⟨⟨i, h, rfl, rfl, hai, h3, by omega, HE⟩, by simp [intOf]; omega⟩
      · go_wp2_with fail
        go_quiet_grown (first | (go_at_call 27; refine Calls.grown_of (pick1_any xm xh _)))
        have hS2 := sw_grown hJ.out.1 nq osq
        generalize grow (wr.drewN nq) osq = W2 at hS2 ⊢
        have hlt2 := nlt_of_cf (x := xm) (y := xh) (by omega)
        have hlv2 : ¬ cfC xm xh < 0 := by omega
        have hlv3 : (!decide (cfC xm xh < 0)) = true := by simp [hlv2]
        rw [← HX.out.1, ← HX.out.2] at hlt2
        have HE : Hid (SWf w0 blk off d W2 ∧ (∀ q, a ≤ q → q < h + 1 → ltC d[m]! d[q]! = false) ∧ (∀ q, j ≤ q → q < m → ltC d[m]! d[q]! = true)) := Lib.hid ⟨hS2, fun q h1 h2 => leC_trans (x := d[q]!) (y := d[h]!) (z := d[m]!) (sorted_le HS.out.2 h1 (by omega) (by omega)) hlt2, hJ.out.2.2⟩
        clear hS2 hlt2 z0 z1 z2 z3
        go_wp2_with fail
        · exact ⟨⟨h + 1, j, by go_num, rfl, by omega, by omega, hjb, HE⟩, by simp [intOf]; omega⟩
        · rename_i hf
          rw [hf] at hlv3
          cases hlv3
    · have hje : j = i := by omega
      subst hje
      have HI := Lib.hid hJ.out.2
      have h1 := Lib.hid hJ.out.1
      clear hJ hlt
      go_wp2_with fail
      go_loopw [17] (fun vk W' => ∃ (k : Nat) (cur : Array Chc), vk = .int .i64 k ∧ j ≤ k ∧ k ≤ m ∧ Hid (SWf w0 blk off cur W' ∧ cur.size = d0.size ∧ cur = shD d m (m - k))) (fun vk _ => (intOf vk).toNat)
      case atStart => exact ⟨m, d, rfl, hjb, Nat.le_refl _, Lib.hid ⟨h1.out, HS.out.1, by rw [Nat.sub_self]; rfl⟩⟩
      case round =>
        clear h1
        obtain ⟨k0, cur, rfl, hak, hkj, hK⟩ := hrel
        by_cases hlt2 : j < k0
        · obtain ⟨k, rfl⟩ : ∃ k, k0 = k + 1 := ⟨k0 - 1, by omega⟩
          have gk : (j : Int) < (k : Int) + 1 := by omega
          have gk1 : (k : Int) + 1 < d0.size := by omega
          have gk2 : (k : Int) < d0.size := by omega
          have e0 : ((k : Int) + 1).toNat = k + 1 := by omega
          obtain ⟨xA, hxA⟩ : ∃ x, cur[k + 1]! = x := ⟨_, rfl⟩
          obtain ⟨xB, hxB⟩ : ∃ x, cur[k]! = x := ⟨_, rfl⟩
          obtain ⟨a0, a1, a2, a3⟩ := hold2 (i := k + 1) (SWK.holds hK.out.1 HB.out.b HB.out.H hK.out.2.1) (by have := hK.out.2.1; omega)
          obtain ⟨b0, b1, b2, b3⟩ := hold2 (i := k) (SWK.holds hK.out.1 HB.out.b HB.out.H hK.out.2.1) (by have := hK.out.2.1; omega)
          rw [hxA] at a0 a1
          rw [hxB] at b0 b1
          obtain ⟨pA, hpA⟩ : ∃ p, off + (k + 1) * 2 = p := ⟨_, rfl⟩
          obtain ⟨pB, hpB⟩ : ∃ p, off + (k) * 2 = p := ⟨_, rfl⟩
          have n1 : ¬ pB = pA := by omega
          have n2 : ¬ pB = pA + 1 := by omega
          have n3 : ¬ pB + 1 = pA := by omega
          rw [hpA] at a0 a1 a2 a3
          rw [hpB] at b0 b1 b2 b3
          have HSw := Lib.hid (sw_swp HB.out hK.out.1 hK.out.2.1 (i := k + 1) (j := k) (by omega) (by omega) hpA hpB hxA hxB)
          clear hxA hxB
          go_wp2_with fail
          go_big_region_o
          all_goals go_wp2_with fail

          refine ⟨⟨k, swp cur (k + 1) k, by go_num, by omega, by omega, Lib.hid ⟨HSw.out, by rw [Sort.size_swp]; exact hK.out.2.1, ?_⟩⟩, by simp [intOf]⟩
          rw [show m - k = (m - (k + 1)) + 1 by omega]
          unfold shD
          rw [← hK.out.2.2, show m - (m - (k + 1)) = k + 1 by omega]
          rfl
        · have hke : k0 = j := by omega
          subst hke
          have HE : Hid (SymOk w0 blk off d a b wr) := by
            refine Lib.hid ⟨cur, hK.out.1, ?_, ?_⟩
            · rw [hK.out.2.2]
              exact shD_perm d m (m - k0) (by omega) (by omega) (by rw [HS.out.1]; exact hb)
            · rw [hK.out.2.2, HM.out]
              exact ins_hi (i := k0) HS.out.2 hai hjb (by rw [HS.out.1]; omega) HI.out.1 HI.out.2
          clear hK
          go_wp2_with fail
          refine bodyPost_ret (results_none rfl _ _ _) rfl ?_
          exact ⟨rfl, HE.out⟩
set_option maxHeartbeats 8000000 in
set_option maxRecDepth 100000 in
theorem sym_gen {w0 W : World} {blk off cap a m b : Nat} {d0 d : Array Chc} (hB : Base w0 blk off d0) (h : SWf w0 blk off d W) (hs : d.size = d0.size) (ham : a < m) (hmb : m < b) (hne : m ≠ a + 1) (hne2 : b ≠ m + 1) (hb : b ≤ d0.size) (hS1 : SortedIn ltC a m d) (hS2 : SortedIn ltC m b d)
    (ih : ∀ (a' m' b' : Nat) (d' : Array Chc) (W' : World), b' - a' < b - a → a' < m' → m' < b' → b' ≤ d0.size → SWf w0 blk off d' W' → d'.size = d0.size → SortedIn ltC a' m' d' → SortedIn ltC m' b' d' → Calls Try.prog 61 #[.slice (some ⟨blk, off, none⟩) d0.size cap, .int .i64 a', .int .i64 m', .int .i64 b', .func (.func 27) #[] #[]] W' fun e w' => e = .returned (.tuple #[]) ∧ SymOk w0 blk off d' a' b' w') :
    Calls Try.prog 61 #[.slice (some ⟨blk, off, none⟩) d0.size cap, .int .i64 a, .int .i64 m, .int .i64 b, .func (.func 27) #[] #[]] W fun e w' => e = .returned (.tuple #[]) ∧ SymOk w0 blk off d a b w' := by
  have HB := Lib.hid hB
  have hma : ((m : Int) - a == 1) = false := by
    have : ¬ (m : Int) - a = 1 := by omega
    simpa using this
  have hbm : ((b : Int) - m == 1) = false := by
    have : ¬ (b : Int) - m = 1 := by omega
    simpa using this
  have HS := Lib.hid (And.intro hs (And.intro hS1 hS2))
  have HI := Lib.hid ih
  have hz := hB.z
  have mixed : Try.prog.follows .mixedOrders = true := by kernel_rfl
  have h0 := Lib.hid h
  obtain ⟨mid, hmid⟩ : ∃ mid, mid = (a + b) / 2 := ⟨_, rfl⟩
  obtain ⟨n, hn⟩ : ∃ n, n = mid + m := ⟨_, rfl⟩
  have emid : ((a : Int) + b) / 2 = mid := by omega
  have en : (mid : Int) + m = n := by omega
  have hab : a < mid ∧ mid < b := by omega
  have HN := Lib.hid (And.intro hmid hn)
  clear hB h hs hS1 hS2 ih
  obtain ⟨s, r, hsr⟩ : ∃ s r, (mid < m ∧ s = n - b ∧ r = mid) ∨ (m ≤ mid ∧ s = a ∧ r = m) := by
    by_cases hc : mid < m
    · exact ⟨_, _, .inl ⟨hc, rfl, rfl⟩⟩
    · exact ⟨_, _, .inr ⟨by omega, rfl, rfl⟩⟩
  have hcr : s ≤ r ∧ a ≤ s ∧ r ≤ m ∧ r ≤ mid := by omega
  have HR := Lib.hid hsr
  have hpc : ∀ c, s ≤ c → c < r → m ≤ n - 1 - c ∧ n - 1 - c < b ∧ c + 1 ≤ n := fun c h1 h2 => by omega
  have HPC := Lib.hid hpc
  have hcs : (mid < m ∧ ((mid : Int) < m) ∧ (n : Int) - b = s ∧ r = mid) ∨ (m ≤ mid ∧ ¬ ((mid : Int) < m) ∧ s = a ∧ r = m) := by omega
  clear hpc hsr hmid hn hne hne2
  have hcond : ∀ st, s ≤ st → st ≤ r → n - st ≤ b := fun st h1 h2 => by
    rcases HR.out with ⟨h3, h4, h5⟩ | ⟨h3, h4, h5⟩ <;> (have := HN.out; omega)
  rcases hcs with ⟨c1, c2, c3, c4⟩ | ⟨c1, c2, c3, c4⟩
  · have H4 := Lib.hid c4
    clear c4 c1
    go_enter Try.func61, Try.ntmps61
    go_wp2_with fail
    go_loopw [20, 21] (fun vi vj W' => ∃ (i j : Nat), vi = .int .i64 i ∧ vj = .int .i64 j ∧ s ≤ i ∧ i ≤ j ∧ j ≤ r ∧ Hid (SWf w0 blk off d W' ∧ (∀ q, s ≤ q → q < i → leC d[q]! d[n - 1 - q]!) ∧ (∀ q, j ≤ q → q < r → ltC d[n - 1 - q]! d[q]! = true))) (fun vi vj _ => (intOf vj).toNat - (intOf vi).toNat)
    case atStart => exact ⟨s, r, by go_num, by rw [H4.out], by omega, by omega, Nat.le_refl _, Lib.hid ⟨h0.out, fun q h1 h2 => by omega, fun q h1 h2 => by omega⟩⟩
    case round =>
      clear h0
      obtain ⟨i, j, rfl, rfl, hai, hij, hjb, hJ⟩ := hrel
      by_cases hlt : i < j
      · obtain ⟨h, hh⟩ : ∃ h : Nat, (h : Int) = ((i : Int) + j) / 2 := ⟨(i + j) / 2, by push_cast; rfl⟩
        have h3 : i ≤ h := by omega
        have h4 : h < j := by omega
        have eh := hh.symm
        clear hh
        have hp := HPC.out h (by omega) (by omega)
        obtain ⟨ph, hph⟩ : ∃ ph, ph = n - 1 - h := ⟨_, rfl⟩
        rw [← hph] at hp
        have e1 : (n : Int) - 1 - h = ph := by omega
        have hwp : IntKind.i64.wrap (ph : Int) = (ph : Int) := by rw [IntKind.wrap_i64]; omega
        obtain ⟨xp, hxp⟩ : ∃ x, d[ph]! = x := ⟨_, rfl⟩
        obtain ⟨xh, hxh⟩ : ∃ x, d[h]! = x := ⟨_, rfl⟩
        have z0 := sw_z0 HB.out hJ.out.1 HS.out.1 (p := h) (by omega)
        have z1 := sw_z1 HB.out hJ.out.1 HS.out.1 (p := h) (by omega)
        have z2 := sw_z0 HB.out hJ.out.1 HS.out.1 (p := ph) (by omega)
        have z3 := sw_z1 HB.out hJ.out.1 HS.out.1 (p := ph) (by omega)
        rw [hxh] at z0 z1
        rw [hxp] at z2 z3
        have HX := Lib.hid (And.intro hxh (And.intro hxp hph))
        have g1 : (h : Int) < d0.size := by omega
        have g2 : (ph : Int) < d0.size := by omega
        clear hxh hxp hph hp
        have hmon : ∀ q q', s ≤ q → q ≤ q' → q' < r → leC d[q]! d[q']! ∧ leC d[n - 1 - q']! d[n - 1 - q]! := fun q q' h1 h2 h3 => ⟨sorted_le HS.out.2.1 (by omega) h2 (by omega), sorted_le HS.out.2.2 (HPC.out q' (by omega) h3).1 (by omega) (HPC.out q h1 (by omega)).2.1⟩
        have HMo := Lib.hid hmon
        clear hmon
        by_cases hlv : cfC xp xh < 0
        · go_wp2_with fail
          go_quiet_grown (first | (go_at_call 27; refine Calls.grown_of (pick1_any xp xh _)))
          have hS2 := sw_grown hJ.out.1 nq osq
          generalize grow (wr.drewN nq) osq = W2 at hS2 ⊢
          have hlt2 := lt_of_cf hlv
          rw [← HX.out.1, ← HX.out.2.1, HX.out.2.2] at hlt2
          have HE : Hid (SWf w0 blk off d W2 ∧ (∀ q, s ≤ q → q < i → leC d[q]! d[n - 1 - q]!) ∧ (∀ q, h ≤ q → q < r → ltC d[n - 1 - q]! d[q]! = true)) := Lib.hid ⟨hS2, hJ.out.2.1, fun q h1 h2 => le_lt_trans (lt_le_trans (HMo.out h q (by omega) h1 h2).2 hlt2) (HMo.out h q (by omega) h1 h2).1⟩
          clear hS2 hlt2 z0 z1 z2 z3
          go_wp2_with fail
          exact ⟨⟨i, h, rfl, rfl, hai, h3, by omega, HE⟩, by simp [intOf]; omega⟩
        · go_wp2_with fail
          go_quiet_grown (first | (go_at_call 27; refine Calls.grown_of (pick1_any xp xh _)))
          have hS2 := sw_grown hJ.out.1 nq osq
          generalize grow (wr.drewN nq) osq = W2 at hS2 ⊢
          have hlt2 := nlt_of_cf (x := xp) (y := xh) (by omega)
          have hlv2 : ¬ cfC xp xh < 0 := by omega
          have hlv3 : (!decide (cfC xp xh < 0)) = true := by simp [hlv2]
          rw [← HX.out.1, ← HX.out.2.1, HX.out.2.2] at hlt2
          have HE : Hid (SWf w0 blk off d W2 ∧ (∀ q, s ≤ q → q < h + 1 → leC d[q]! d[n - 1 - q]!) ∧ (∀ q, j ≤ q → q < r → ltC d[n - 1 - q]! d[q]! = true)) := Lib.hid ⟨hS2, fun q h1 h2 => leC_trans (leC_trans (HMo.out q h h1 (by omega) (by omega)).1 (show leC d[h]! d[n - 1 - h]! from hlt2)) (HMo.out q h h1 (by omega) (by omega)).2, hJ.out.2.2⟩
          clear hS2 hlt2 z0 z1 z2 z3
          go_wp2_with fail
          · exact ⟨⟨h + 1, j, by go_num, rfl, by omega, by omega, hjb, HE⟩, by simp [intOf]; omega⟩
          · rename_i hf
            rw [hf] at hlv3
            cases hlv3
      · have hje : j = i := by omega
        subst hje
        have hW0 := Lib.hid hJ.out.1
        obtain ⟨en, hen⟩ : ∃ en, en = n - j := ⟨_, rfl⟩
        obtain ⟨b1, b2, b3, b4, b5, _, _, b8, b9, _⟩ := sym_bounds ham hmb HN.out.1 HN.out.2 HR.out hai hjb hen
        have een : (n : Int) - j = en := by have := HN.out.2; omega
        have HP : Hid (∀ d1, IsRot d d1 j m en → SortedIn ltC a j d1 ∧ SortedIn ltC j mid d1 ∧ SortedIn ltC mid en d1 ∧ SortedIn ltC en b d1 ∧ ∀ p q, a ≤ p → p < mid → mid ≤ q → q < b → leC d1[p]! d1[q]!) := Lib.hid fun d1 hr1 => sym_parts ham hmb HN.out.1 HN.out.2 HR.out HS.out.2.1 HS.out.2.2 hai hjb hJ.out.2.1 (fun q h1 h2 => leC_of_lt (hJ.out.2.2 q h1 h2)) hen hr1
        have HEN := Lib.hid hen
        clear hJ hlt hij hen
        by_cases r1 : j < m
        · by_cases r2 : m < en
          · have q2 : j < mid := by omega
            have p1 : mid < en := by omega
            have CR := Lib.hid (rotate_on (cap := cap) HB.out hW0.out HS.out.1 (.func (.func 27) #[] #[]) r1 r2 (by omega))
            by_cases q1 : a < j
            · by_cases p2 : en < b
              · go_wp2_with fail
                refine CR.out.mono ?_
                rintro e W1 ⟨rfl, d1, hW1, hro, hpr⟩
                have HD1 := Lib.hid (And.intro hW1 (And.intro (HP.out d1 hro) (And.intro (permIn_mono _ _ _ _ _ _ b1 b4 (by have := HS.out.1; omega) hpr) (hpr.1.trans HS.out.1))))
                clear hW1 hro hpr CR
                have CL := Lib.hid (HI.out a j mid d1 _ (by omega) q1 q2 (by omega) HD1.out.1 HD1.out.2.2.2 HD1.out.2.1.1 HD1.out.2.1.2.1)
                go_wp2_with fail
                refine CL.out.mono ?_
                rintro e W2 ⟨rfl, d2, hW2, hp2, hs2⟩
                have HD2 := Lib.hid (And.intro hW2 (And.intro hp2 (And.intro hs2 (hp2.1.trans HD1.out.2.2.2))))
                clear hW2 hp2 hs2 CL
                have CL2 := Lib.hid (HI.out mid en b _ _ (by omega) p1 p2 (by omega) HD2.out.1 HD2.out.2.2.2 (sorted_keep HD1.out.2.1.2.2.1 HD2.out.2.1 (.inl (Nat.le_refl _))) (sorted_keep HD1.out.2.1.2.2.2.1 HD2.out.2.1 (.inl (by omega))))
                go_wp2_with fail
                refine CL2.out.mono ?_
                rintro e W3 ⟨rfl, d3, hW3, hp3, hs3⟩
                have HD3 := Lib.hid (And.intro hW3 (And.intro hp3 hs3))
                clear hW3 hp3 hs3 CL2
                have HJn := Lib.hid (sym_join (by have := HD1.out.2.2.2; omega) (by omega) (by omega) HD1.out.2.1.2.2.2.2 HD2.out.2.1 HD2.out.2.2.1 HD3.out.2.1 HD3.out.2.2)
                go_wp2_with fail
                go_end0
                exact ⟨rfl, _, HD3.out.1, permIn_trans _ _ _ _ _ HD1.out.2.2.1 HJn.out.1, HJn.out.2⟩
              · go_wp2_with fail
                refine CR.out.mono ?_
                rintro e W1 ⟨rfl, d1, hW1, hro, hpr⟩
                have HD1 := Lib.hid (And.intro hW1 (And.intro (HP.out d1 hro) (And.intro (permIn_mono _ _ _ _ _ _ b1 b4 (by have := HS.out.1; omega) hpr) (hpr.1.trans HS.out.1))))
                clear hW1 hro hpr CR
                have CL := Lib.hid (HI.out a j mid d1 _ (by omega) q1 q2 (by omega) HD1.out.1 HD1.out.2.2.2 HD1.out.2.1.1 HD1.out.2.1.2.1)
                go_wp2_with fail
                refine CL.out.mono ?_
                rintro e W2 ⟨rfl, d2, hW2, hp2, hs2⟩
                have HD2 := Lib.hid (And.intro hW2 (And.intro hp2 (And.intro hs2 (hp2.1.trans HD1.out.2.2.2))))
                clear hW2 hp2 hs2 CL
                have HD3 := Lib.hid (And.intro HD2.out.1 (And.intro (permIn_refl (α := Chc) d2 mid b) (show SortedIn ltC mid b _ from sorted_keep (by have e : b = en := (by omega); rw [e]; exact HD1.out.2.1.2.2.1) HD2.out.2.1 (.inl (Nat.le_refl _)))))
                have HJn := Lib.hid (sym_join (by have := HD1.out.2.2.2; omega) (by omega) (by omega) HD1.out.2.1.2.2.2.2 HD2.out.2.1 HD2.out.2.2.1 HD3.out.2.1 HD3.out.2.2)
                go_wp2_with fail
                go_end0
                exact ⟨rfl, _, HD3.out.1, permIn_trans _ _ _ _ _ HD1.out.2.2.1 HJn.out.1, HJn.out.2⟩
            · by_cases p2 : en < b
              · go_wp2_with fail
                refine CR.out.mono ?_
                rintro e W1 ⟨rfl, d1, hW1, hro, hpr⟩
                have HD1 := Lib.hid (And.intro hW1 (And.intro (HP.out d1 hro) (And.intro (permIn_mono _ _ _ _ _ _ b1 b4 (by have := HS.out.1; omega) hpr) (hpr.1.trans HS.out.1))))
                clear hW1 hro hpr CR
                have HD2 := Lib.hid (And.intro HD1.out.1 (And.intro (permIn_refl (α := Chc) d1 a mid) (And.intro (show SortedIn ltC a mid d1 from (by have e : a = j := (by omega); rw [e]; exact HD1.out.2.1.2.1)) HD1.out.2.2.2)))
                have CL2 := Lib.hid (HI.out mid en b _ _ (by omega) p1 p2 (by omega) HD2.out.1 HD2.out.2.2.2 (sorted_keep HD1.out.2.1.2.2.1 HD2.out.2.1 (.inl (Nat.le_refl _))) (sorted_keep HD1.out.2.1.2.2.2.1 HD2.out.2.1 (.inl (by omega))))
                go_wp2_with fail
                refine CL2.out.mono ?_
                rintro e W3 ⟨rfl, d3, hW3, hp3, hs3⟩
                have HD3 := Lib.hid (And.intro hW3 (And.intro hp3 hs3))
                clear hW3 hp3 hs3 CL2
                have HJn := Lib.hid (sym_join (by have := HD1.out.2.2.2; omega) (by omega) (by omega) HD1.out.2.1.2.2.2.2 HD2.out.2.1 HD2.out.2.2.1 HD3.out.2.1 HD3.out.2.2)
                go_wp2_with fail
                go_end0
                exact ⟨rfl, _, HD3.out.1, permIn_trans _ _ _ _ _ HD1.out.2.2.1 HJn.out.1, HJn.out.2⟩
              · go_wp2_with fail
                refine CR.out.mono ?_
                rintro e W1 ⟨rfl, d1, hW1, hro, hpr⟩
                have HD1 := Lib.hid (And.intro hW1 (And.intro (HP.out d1 hro) (And.intro (permIn_mono _ _ _ _ _ _ b1 b4 (by have := HS.out.1; omega) hpr) (hpr.1.trans HS.out.1))))
                clear hW1 hro hpr CR
                have HD2 := Lib.hid (And.intro HD1.out.1 (And.intro (permIn_refl (α := Chc) d1 a mid) (And.intro (show SortedIn ltC a mid d1 from (by have e : a = j := (by omega); rw [e]; exact HD1.out.2.1.2.1)) HD1.out.2.2.2)))
                have HD3 := Lib.hid (And.intro HD2.out.1 (And.intro (permIn_refl (α := Chc) d1 mid b) (show SortedIn ltC mid b _ from sorted_keep (by have e : b = en := (by omega); rw [e]; exact HD1.out.2.1.2.2.1) HD2.out.2.1 (.inl (Nat.le_refl _)))))
                have HJn := Lib.hid (sym_join (by have := HD1.out.2.2.2; omega) (by omega) (by omega) HD1.out.2.1.2.2.2.2 HD2.out.2.1 HD2.out.2.2.1 HD3.out.2.1 HD3.out.2.2)
                go_wp2_with fail
                go_end0
                exact ⟨rfl, _, HD3.out.1, permIn_trans _ _ _ _ _ HD1.out.2.2.1 HJn.out.1, HJn.out.2⟩
          · have e5 : mid = j := by omega
            have e6 : en = m := by omega
            have q1 : a < j := by omega
            have q2 : ¬ j < mid := by omega
            have p1 : mid < en := by omega
            have p2 : en < b := by omega
            have HE5 := Lib.hid (And.intro e5 e6)
            clear e5 e6
            obtain ⟨d1, hd1⟩ : ∃ d1, d1 = d := ⟨_, rfl⟩
            have HD1 : Hid (SWf w0 blk off d1 wr ∧ (SortedIn ltC a j d1 ∧ SortedIn ltC j mid d1 ∧ SortedIn ltC mid en d1 ∧ SortedIn ltC en b d1 ∧ ∀ p q, a ≤ p → p < mid → mid ≤ q → q < b → leC d1[p]! d1[q]!) ∧ PermIn a b d d1 ∧ d1.size = d0.size) := by
              rw [hd1]
              exact Lib.hid ⟨hW0.out, HP.out d (rot_id b2 b3 (.inr HE5.out.2.symm)), permIn_refl _ _ _, HS.out.1⟩
            clear hd1
            have HD2 := Lib.hid (And.intro HD1.out.1 (And.intro (permIn_refl (α := Chc) d1 a mid) (And.intro (show SortedIn ltC a mid d1 from (by have e : mid = j := (by omega); rw [e]; exact HD1.out.2.1.1)) HD1.out.2.2.2)))
            have CL2 := Lib.hid (HI.out mid en b _ _ (by omega) p1 p2 (by omega) HD2.out.1 HD2.out.2.2.2 (sorted_keep HD1.out.2.1.2.2.1 HD2.out.2.1 (.inl (Nat.le_refl _))) (sorted_keep HD1.out.2.1.2.2.2.1 HD2.out.2.1 (.inl (by omega))))
            go_wp2_with fail
            refine CL2.out.mono ?_
            rintro e W3 ⟨rfl, d3, hW3, hp3, hs3⟩
            have HD3 := Lib.hid (And.intro hW3 (And.intro hp3 hs3))
            clear hW3 hp3 hs3 CL2
            have HJn := Lib.hid (sym_join (by have := HD1.out.2.2.2; omega) (by omega) (by omega) HD1.out.2.1.2.2.2.2 HD2.out.2.1 HD2.out.2.2.1 HD3.out.2.1 HD3.out.2.2)
            go_wp2_with fail
            go_end0
            exact ⟨rfl, _, HD3.out.1, permIn_trans _ _ _ _ _ HD1.out.2.2.1 HJn.out.1, HJn.out.2⟩
        · have e5 : mid = en := by omega
          have e6 : j = m := by omega
          have q1 : a < j := by omega
          have p1 : ¬ mid < en := by omega
          have HE5 := Lib.hid (And.intro e5 e6)
          clear e5 e6
          by_cases q2 : j < mid
          · obtain ⟨d1, hd1⟩ : ∃ d1, d1 = d := ⟨_, rfl⟩
            have HD1 : Hid (SWf w0 blk off d1 wr ∧ (SortedIn ltC a j d1 ∧ SortedIn ltC j mid d1 ∧ SortedIn ltC mid en d1 ∧ SortedIn ltC en b d1 ∧ ∀ p q, a ≤ p → p < mid → mid ≤ q → q < b → leC d1[p]! d1[q]!) ∧ PermIn a b d d1 ∧ d1.size = d0.size) := by
              rw [hd1]
              exact Lib.hid ⟨hW0.out, HP.out d (rot_id b2 b3 (.inl HE5.out.2)), permIn_refl _ _ _, HS.out.1⟩
            clear hd1
            have CL := Lib.hid (HI.out a j mid d1 _ (by omega) q1 q2 (by omega) HD1.out.1 HD1.out.2.2.2 HD1.out.2.1.1 HD1.out.2.1.2.1)
            go_wp2_with fail
            refine CL.out.mono ?_
            rintro e W2 ⟨rfl, d2, hW2, hp2, hs2⟩
            have HD2 := Lib.hid (And.intro hW2 (And.intro hp2 (And.intro hs2 (hp2.1.trans HD1.out.2.2.2))))
            clear hW2 hp2 hs2 CL
            have HD3 := Lib.hid (And.intro HD2.out.1 (And.intro (permIn_refl (α := Chc) d2 mid b) (show SortedIn ltC mid b _ from sorted_keep (by have e : mid = en := (by omega); rw [e]; exact HD1.out.2.1.2.2.2.1) HD2.out.2.1 (.inl (Nat.le_refl _)))))
            have HJn := Lib.hid (sym_join (by have := HD1.out.2.2.2; omega) (by omega) (by omega) HD1.out.2.1.2.2.2.2 HD2.out.2.1 HD2.out.2.2.1 HD3.out.2.1 HD3.out.2.2)
            go_wp2_with fail
            go_end0
            exact ⟨rfl, _, HD3.out.1, permIn_trans _ _ _ _ _ HD1.out.2.2.1 HJn.out.1, HJn.out.2⟩
          · obtain ⟨d1, hd1⟩ : ∃ d1, d1 = d := ⟨_, rfl⟩
            have HD1 : Hid (SWf w0 blk off d1 wr ∧ (SortedIn ltC a j d1 ∧ SortedIn ltC j mid d1 ∧ SortedIn ltC mid en d1 ∧ SortedIn ltC en b d1 ∧ ∀ p q, a ≤ p → p < mid → mid ≤ q → q < b → leC d1[p]! d1[q]!) ∧ PermIn a b d d1 ∧ d1.size = d0.size) := by
              rw [hd1]
              exact Lib.hid ⟨hW0.out, HP.out d (rot_id b2 b3 (.inl HE5.out.2)), permIn_refl _ _ _, HS.out.1⟩
            clear hd1
            have HD2 := Lib.hid (And.intro HD1.out.1 (And.intro (permIn_refl (α := Chc) d1 a mid) (And.intro (show SortedIn ltC a mid d1 from (by have e : mid = j := (by omega); rw [e]; exact HD1.out.2.1.1)) HD1.out.2.2.2)))
            have HD3 := Lib.hid (And.intro HD2.out.1 (And.intro (permIn_refl (α := Chc) d1 mid b) (show SortedIn ltC mid b _ from sorted_keep (by have e : mid = en := (by omega); rw [e]; exact HD1.out.2.1.2.2.2.1) HD2.out.2.1 (.inl (Nat.le_refl _)))))
            have HJn := Lib.hid (sym_join (by have := HD1.out.2.2.2; omega) (by omega) (by omega) HD1.out.2.1.2.2.2.2 HD2.out.2.1 HD2.out.2.2.1 HD3.out.2.1 HD3.out.2.2)
            go_wp2_with fail
            go_end0
            exact ⟨rfl, _, HD3.out.1, permIn_trans _ _ _ _ _ HD1.out.2.2.1 HJn.out.1, HJn.out.2⟩
  · have H4 := Lib.hid (And.intro c3 c4)
    clear c3 c4 c1
    go_enter Try.func61, Try.ntmps61
    go_wp2_with fail
    go_loopw [20, 21] (fun vi vj W' => ∃ (i j : Nat), vi = .int .i64 i ∧ vj = .int .i64 j ∧ s ≤ i ∧ i ≤ j ∧ j ≤ r ∧ Hid (SWf w0 blk off d W' ∧ (∀ q, s ≤ q → q < i → leC d[q]! d[n - 1 - q]!) ∧ (∀ q, j ≤ q → q < r → ltC d[n - 1 - q]! d[q]! = true))) (fun vi vj _ => (intOf vj).toNat - (intOf vi).toNat)
    case atStart => exact ⟨s, r, by rw [H4.out.1], by rw [H4.out.2], by omega, by omega, Nat.le_refl _, Lib.hid ⟨h0.out, fun q h1 h2 => by omega, fun q h1 h2 => by omega⟩⟩
    case round =>
      clear h0
      obtain ⟨i, j, rfl, rfl, hai, hij, hjb, hJ⟩ := hrel
      by_cases hlt : i < j
      · obtain ⟨h, hh⟩ : ∃ h : Nat, (h : Int) = ((i : Int) + j) / 2 := ⟨(i + j) / 2, by push_cast; rfl⟩
        have h3 : i ≤ h := by omega
        have h4 : h < j := by omega
        have eh := hh.symm
        clear hh
        have hp := HPC.out h (by omega) (by omega)
        obtain ⟨ph, hph⟩ : ∃ ph, ph = n - 1 - h := ⟨_, rfl⟩
        rw [← hph] at hp
        have e1 : (n : Int) - 1 - h = ph := by omega
        have hwp : IntKind.i64.wrap (ph : Int) = (ph : Int) := by rw [IntKind.wrap_i64]; omega
        obtain ⟨xp, hxp⟩ : ∃ x, d[ph]! = x := ⟨_, rfl⟩
        obtain ⟨xh, hxh⟩ : ∃ x, d[h]! = x := ⟨_, rfl⟩
        have z0 := sw_z0 HB.out hJ.out.1 HS.out.1 (p := h) (by omega)
        have z1 := sw_z1 HB.out hJ.out.1 HS.out.1 (p := h) (by omega)
        have z2 := sw_z0 HB.out hJ.out.1 HS.out.1 (p := ph) (by omega)
        have z3 := sw_z1 HB.out hJ.out.1 HS.out.1 (p := ph) (by omega)
        rw [hxh] at z0 z1
        rw [hxp] at z2 z3
        have HX := Lib.hid (And.intro hxh (And.intro hxp hph))
        have g1 : (h : Int) < d0.size := by omega
        have g2 : (ph : Int) < d0.size := by omega
        clear hxh hxp hph hp
        have hmon : ∀ q q', s ≤ q → q ≤ q' → q' < r → leC d[q]! d[q']! ∧ leC d[n - 1 - q']! d[n - 1 - q]! := fun q q' h1 h2 h3 => ⟨sorted_le HS.out.2.1 (by omega) h2 (by omega), sorted_le HS.out.2.2 (HPC.out q' (by omega) h3).1 (by omega) (HPC.out q h1 (by omega)).2.1⟩
        have HMo := Lib.hid hmon
        clear hmon
        by_cases hlv : cfC xp xh < 0
        · go_wp2_with fail
          go_quiet_grown (first | (go_at_call 27; refine Calls.grown_of (pick1_any xp xh _)))
          have hS2 := sw_grown hJ.out.1 nq osq
          generalize grow (wr.drewN nq) osq = W2 at hS2 ⊢
          have hlt2 := lt_of_cf hlv
          rw [← HX.out.1, ← HX.out.2.1, HX.out.2.2] at hlt2
          have HE : Hid (SWf w0 blk off d W2 ∧ (∀ q, s ≤ q → q < i → leC d[q]! d[n - 1 - q]!) ∧ (∀ q, h ≤ q → q < r → ltC d[n - 1 - q]! d[q]! = true)) := Lib.hid ⟨hS2, hJ.out.2.1, fun q h1 h2 => le_lt_trans (lt_le_trans (HMo.out h q (by omega) h1 h2).2 hlt2) (HMo.out h q (by omega) h1 h2).1⟩
          clear hS2 hlt2 z0 z1 z2 z3
          go_wp2_with fail
          exact ⟨⟨i, h, rfl, rfl, hai, h3, by omega, HE⟩, by simp [intOf]; omega⟩
        · go_wp2_with fail
          go_quiet_grown (first | (go_at_call 27; refine Calls.grown_of (pick1_any xp xh _)))
          have hS2 := sw_grown hJ.out.1 nq osq
          generalize grow (wr.drewN nq) osq = W2 at hS2 ⊢
          have hlt2 := nlt_of_cf (x := xp) (y := xh) (by omega)
          have hlv2 : ¬ cfC xp xh < 0 := by omega
          have hlv3 : (!decide (cfC xp xh < 0)) = true := by simp [hlv2]
          rw [← HX.out.1, ← HX.out.2.1, HX.out.2.2] at hlt2
          have HE : Hid (SWf w0 blk off d W2 ∧ (∀ q, s ≤ q → q < h + 1 → leC d[q]! d[n - 1 - q]!) ∧ (∀ q, j ≤ q → q < r → ltC d[n - 1 - q]! d[q]! = true)) := Lib.hid ⟨hS2, fun q h1 h2 => leC_trans (leC_trans (HMo.out q h h1 (by omega) (by omega)).1 (show leC d[h]! d[n - 1 - h]! from hlt2)) (HMo.out q h h1 (by omega) (by omega)).2, hJ.out.2.2⟩
          clear hS2 hlt2 z0 z1 z2 z3
          go_wp2_with fail
          · exact ⟨⟨h + 1, j, by go_num, rfl, by omega, by omega, hjb, HE⟩, by simp [intOf]; omega⟩
          · rename_i hf
            rw [hf] at hlv3
            cases hlv3
      · have hje : j = i := by omega
        subst hje
        have hW0 := Lib.hid hJ.out.1
        obtain ⟨en, hen⟩ : ∃ en, en = n - j := ⟨_, rfl⟩
        obtain ⟨b1, b2, b3, b4, b5, _, _, b8, b9, _⟩ := sym_bounds ham hmb HN.out.1 HN.out.2 HR.out hai hjb hen
        have een : (n : Int) - j = en := by have := HN.out.2; omega
        have HP : Hid (∀ d1, IsRot d d1 j m en → SortedIn ltC a j d1 ∧ SortedIn ltC j mid d1 ∧ SortedIn ltC mid en d1 ∧ SortedIn ltC en b d1 ∧ ∀ p q, a ≤ p → p < mid → mid ≤ q → q < b → leC d1[p]! d1[q]!) := Lib.hid fun d1 hr1 => sym_parts ham hmb HN.out.1 HN.out.2 HR.out HS.out.2.1 HS.out.2.2 hai hjb hJ.out.2.1 (fun q h1 h2 => leC_of_lt (hJ.out.2.2 q h1 h2)) hen hr1
        have HEN := Lib.hid hen
        clear hJ hlt hij hen
        by_cases r1 : j < m
        · by_cases r2 : m < en
          · have q2 : j < mid := by omega
            have p1 : mid < en := by omega
            have CR := Lib.hid (rotate_on (cap := cap) HB.out hW0.out HS.out.1 (.func (.func 27) #[] #[]) r1 r2 (by omega))
            by_cases q1 : a < j
            · by_cases p2 : en < b
              · go_wp2_with fail
                refine CR.out.mono ?_
                rintro e W1 ⟨rfl, d1, hW1, hro, hpr⟩
                have HD1 := Lib.hid (And.intro hW1 (And.intro (HP.out d1 hro) (And.intro (permIn_mono _ _ _ _ _ _ b1 b4 (by have := HS.out.1; omega) hpr) (hpr.1.trans HS.out.1))))
                clear hW1 hro hpr CR
                have CL := Lib.hid (HI.out a j mid d1 _ (by omega) q1 q2 (by omega) HD1.out.1 HD1.out.2.2.2 HD1.out.2.1.1 HD1.out.2.1.2.1)
                go_wp2_with fail
                refine CL.out.mono ?_
                rintro e W2 ⟨rfl, d2, hW2, hp2, hs2⟩
                have HD2 := Lib.hid (And.intro hW2 (And.intro hp2 (And.intro hs2 (hp2.1.trans HD1.out.2.2.2))))
                clear hW2 hp2 hs2 CL
                have CL2 := Lib.hid (HI.out mid en b _ _ (by omega) p1 p2 (by omega) HD2.out.1 HD2.out.2.2.2 (sorted_keep HD1.out.2.1.2.2.1 HD2.out.2.1 (.inl (Nat.le_refl _))) (sorted_keep HD1.out.2.1.2.2.2.1 HD2.out.2.1 (.inl (by omega))))
                go_wp2_with fail
                refine CL2.out.mono ?_
                rintro e W3 ⟨rfl, d3, hW3, hp3, hs3⟩
                have HD3 := Lib.hid (And.intro hW3 (And.intro hp3 hs3))
                clear hW3 hp3 hs3 CL2
                have HJn := Lib.hid (sym_join (by have := HD1.out.2.2.2; omega) (by omega) (by omega) HD1.out.2.1.2.2.2.2 HD2.out.2.1 HD2.out.2.2.1 HD3.out.2.1 HD3.out.2.2)
                go_wp2_with fail
                go_end0
                exact ⟨rfl, _, HD3.out.1, permIn_trans _ _ _ _ _ HD1.out.2.2.1 HJn.out.1, HJn.out.2⟩
              · go_wp2_with fail
                refine CR.out.mono ?_
                rintro e W1 ⟨rfl, d1, hW1, hro, hpr⟩
                have HD1 := Lib.hid (And.intro hW1 (And.intro (HP.out d1 hro) (And.intro (permIn_mono _ _ _ _ _ _ b1 b4 (by have := HS.out.1; omega) hpr) (hpr.1.trans HS.out.1))))
                clear hW1 hro hpr CR
                have CL := Lib.hid (HI.out a j mid d1 _ (by omega) q1 q2 (by omega) HD1.out.1 HD1.out.2.2.2 HD1.out.2.1.1 HD1.out.2.1.2.1)
                go_wp2_with fail
                refine CL.out.mono ?_
                rintro e W2 ⟨rfl, d2, hW2, hp2, hs2⟩
                have HD2 := Lib.hid (And.intro hW2 (And.intro hp2 (And.intro hs2 (hp2.1.trans HD1.out.2.2.2))))
                clear hW2 hp2 hs2 CL
                have HD3 := Lib.hid (And.intro HD2.out.1 (And.intro (permIn_refl (α := Chc) d2 mid b) (show SortedIn ltC mid b _ from sorted_keep (by have e : b = en := (by omega); rw [e]; exact HD1.out.2.1.2.2.1) HD2.out.2.1 (.inl (Nat.le_refl _)))))
                have HJn := Lib.hid (sym_join (by have := HD1.out.2.2.2; omega) (by omega) (by omega) HD1.out.2.1.2.2.2.2 HD2.out.2.1 HD2.out.2.2.1 HD3.out.2.1 HD3.out.2.2)
                go_wp2_with fail
                go_end0
                exact ⟨rfl, _, HD3.out.1, permIn_trans _ _ _ _ _ HD1.out.2.2.1 HJn.out.1, HJn.out.2⟩
            · by_cases p2 : en < b
              · go_wp2_with fail
                refine CR.out.mono ?_
                rintro e W1 ⟨rfl, d1, hW1, hro, hpr⟩
                have HD1 := Lib.hid (And.intro hW1 (And.intro (HP.out d1 hro) (And.intro (permIn_mono _ _ _ _ _ _ b1 b4 (by have := HS.out.1; omega) hpr) (hpr.1.trans HS.out.1))))
                clear hW1 hro hpr CR
                have HD2 := Lib.hid (And.intro HD1.out.1 (And.intro (permIn_refl (α := Chc) d1 a mid) (And.intro (show SortedIn ltC a mid d1 from (by have e : a = j := (by omega); rw [e]; exact HD1.out.2.1.2.1)) HD1.out.2.2.2)))
                have CL2 := Lib.hid (HI.out mid en b _ _ (by omega) p1 p2 (by omega) HD2.out.1 HD2.out.2.2.2 (sorted_keep HD1.out.2.1.2.2.1 HD2.out.2.1 (.inl (Nat.le_refl _))) (sorted_keep HD1.out.2.1.2.2.2.1 HD2.out.2.1 (.inl (by omega))))
                go_wp2_with fail
                refine CL2.out.mono ?_
                rintro e W3 ⟨rfl, d3, hW3, hp3, hs3⟩
                have HD3 := Lib.hid (And.intro hW3 (And.intro hp3 hs3))
                clear hW3 hp3 hs3 CL2
                have HJn := Lib.hid (sym_join (by have := HD1.out.2.2.2; omega) (by omega) (by omega) HD1.out.2.1.2.2.2.2 HD2.out.2.1 HD2.out.2.2.1 HD3.out.2.1 HD3.out.2.2)
                go_wp2_with fail
                go_end0
                exact ⟨rfl, _, HD3.out.1, permIn_trans _ _ _ _ _ HD1.out.2.2.1 HJn.out.1, HJn.out.2⟩
              · go_wp2_with fail
                refine CR.out.mono ?_
                rintro e W1 ⟨rfl, d1, hW1, hro, hpr⟩
                have HD1 := Lib.hid (And.intro hW1 (And.intro (HP.out d1 hro) (And.intro (permIn_mono _ _ _ _ _ _ b1 b4 (by have := HS.out.1; omega) hpr) (hpr.1.trans HS.out.1))))
                clear hW1 hro hpr CR
                have HD2 := Lib.hid (And.intro HD1.out.1 (And.intro (permIn_refl (α := Chc) d1 a mid) (And.intro (show SortedIn ltC a mid d1 from (by have e : a = j := (by omega); rw [e]; exact HD1.out.2.1.2.1)) HD1.out.2.2.2)))
                have HD3 := Lib.hid (And.intro HD2.out.1 (And.intro (permIn_refl (α := Chc) d1 mid b) (show SortedIn ltC mid b _ from sorted_keep (by have e : b = en := (by omega); rw [e]; exact HD1.out.2.1.2.2.1) HD2.out.2.1 (.inl (Nat.le_refl _)))))
                have HJn := Lib.hid (sym_join (by have := HD1.out.2.2.2; omega) (by omega) (by omega) HD1.out.2.1.2.2.2.2 HD2.out.2.1 HD2.out.2.2.1 HD3.out.2.1 HD3.out.2.2)
                go_wp2_with fail
                go_end0
                exact ⟨rfl, _, HD3.out.1, permIn_trans _ _ _ _ _ HD1.out.2.2.1 HJn.out.1, HJn.out.2⟩
          · have e5 : mid = j := by omega
            have e6 : en = m := by omega
            have q1 : a < j := by omega
            have q2 : ¬ j < mid := by omega
            have p1 : mid < en := by omega
            have p2 : en < b := by omega
            have HE5 := Lib.hid (And.intro e5 e6)
            clear e5 e6
            obtain ⟨d1, hd1⟩ : ∃ d1, d1 = d := ⟨_, rfl⟩
            have HD1 : Hid (SWf w0 blk off d1 wr ∧ (SortedIn ltC a j d1 ∧ SortedIn ltC j mid d1 ∧ SortedIn ltC mid en d1 ∧ SortedIn ltC en b d1 ∧ ∀ p q, a ≤ p → p < mid → mid ≤ q → q < b → leC d1[p]! d1[q]!) ∧ PermIn a b d d1 ∧ d1.size = d0.size) := by
              rw [hd1]
              exact Lib.hid ⟨hW0.out, HP.out d (rot_id b2 b3 (.inr HE5.out.2.symm)), permIn_refl _ _ _, HS.out.1⟩
            clear hd1
            have HD2 := Lib.hid (And.intro HD1.out.1 (And.intro (permIn_refl (α := Chc) d1 a mid) (And.intro (show SortedIn ltC a mid d1 from (by have e : mid = j := (by omega); rw [e]; exact HD1.out.2.1.1)) HD1.out.2.2.2)))
            have CL2 := Lib.hid (HI.out mid en b _ _ (by omega) p1 p2 (by omega) HD2.out.1 HD2.out.2.2.2 (sorted_keep HD1.out.2.1.2.2.1 HD2.out.2.1 (.inl (Nat.le_refl _))) (sorted_keep HD1.out.2.1.2.2.2.1 HD2.out.2.1 (.inl (by omega))))
            go_wp2_with fail
            refine CL2.out.mono ?_
            rintro e W3 ⟨rfl, d3, hW3, hp3, hs3⟩
            have HD3 := Lib.hid (And.intro hW3 (And.intro hp3 hs3))
            clear hW3 hp3 hs3 CL2
            have HJn := Lib.hid (sym_join (by have := HD1.out.2.2.2; omega) (by omega) (by omega) HD1.out.2.1.2.2.2.2 HD2.out.2.1 HD2.out.2.2.1 HD3.out.2.1 HD3.out.2.2)
            go_wp2_with fail
            go_end0
            exact ⟨rfl, _, HD3.out.1, permIn_trans _ _ _ _ _ HD1.out.2.2.1 HJn.out.1, HJn.out.2⟩
        · have e5 : mid = en := by omega
          have e6 : j = m := by omega
          have q1 : a < j := by omega
          have p1 : ¬ mid < en := by omega
          have HE5 := Lib.hid (And.intro e5 e6)
          clear e5 e6
          by_cases q2 : j < mid
          · obtain ⟨d1, hd1⟩ : ∃ d1, d1 = d := ⟨_, rfl⟩
            have HD1 : Hid (SWf w0 blk off d1 wr ∧ (SortedIn ltC a j d1 ∧ SortedIn ltC j mid d1 ∧ SortedIn ltC mid en d1 ∧ SortedIn ltC en b d1 ∧ ∀ p q, a ≤ p → p < mid → mid ≤ q → q < b → leC d1[p]! d1[q]!) ∧ PermIn a b d d1 ∧ d1.size = d0.size) := by
              rw [hd1]
              exact Lib.hid ⟨hW0.out, HP.out d (rot_id b2 b3 (.inl HE5.out.2)), permIn_refl _ _ _, HS.out.1⟩
            clear hd1
            have CL := Lib.hid (HI.out a j mid d1 _ (by omega) q1 q2 (by omega) HD1.out.1 HD1.out.2.2.2 HD1.out.2.1.1 HD1.out.2.1.2.1)
            go_wp2_with fail
            refine CL.out.mono ?_
            rintro e W2 ⟨rfl, d2, hW2, hp2, hs2⟩
            have HD2 := Lib.hid (And.intro hW2 (And.intro hp2 (And.intro hs2 (hp2.1.trans HD1.out.2.2.2))))
            clear hW2 hp2 hs2 CL
            have HD3 := Lib.hid (And.intro HD2.out.1 (And.intro (permIn_refl (α := Chc) d2 mid b) (show SortedIn ltC mid b _ from sorted_keep (by have e : mid = en := (by omega); rw [e]; exact HD1.out.2.1.2.2.2.1) HD2.out.2.1 (.inl (Nat.le_refl _)))))
            have HJn := Lib.hid (sym_join (by have := HD1.out.2.2.2; omega) (by omega) (by omega) HD1.out.2.1.2.2.2.2 HD2.out.2.1 HD2.out.2.2.1 HD3.out.2.1 HD3.out.2.2)
            go_wp2_with fail
            go_end0
            exact ⟨rfl, _, HD3.out.1, permIn_trans _ _ _ _ _ HD1.out.2.2.1 HJn.out.1, HJn.out.2⟩
          · obtain ⟨d1, hd1⟩ : ∃ d1, d1 = d := ⟨_, rfl⟩
            have HD1 : Hid (SWf w0 blk off d1 wr ∧ (SortedIn ltC a j d1 ∧ SortedIn ltC j mid d1 ∧ SortedIn ltC mid en d1 ∧ SortedIn ltC en b d1 ∧ ∀ p q, a ≤ p → p < mid → mid ≤ q → q < b → leC d1[p]! d1[q]!) ∧ PermIn a b d d1 ∧ d1.size = d0.size) := by
              rw [hd1]
              exact Lib.hid ⟨hW0.out, HP.out d (rot_id b2 b3 (.inl HE5.out.2)), permIn_refl _ _ _, HS.out.1⟩
            clear hd1
            have HD2 := Lib.hid (And.intro HD1.out.1 (And.intro (permIn_refl (α := Chc) d1 a mid) (And.intro (show SortedIn ltC a mid d1 from (by have e : mid = j := (by omega); rw [e]; exact HD1.out.2.1.1)) HD1.out.2.2.2)))
            have HD3 := Lib.hid (And.intro HD2.out.1 (And.intro (permIn_refl (α := Chc) d1 mid b) (show SortedIn ltC mid b _ from sorted_keep (by have e : mid = en := (by omega); rw [e]; exact HD1.out.2.1.2.2.2.1) HD2.out.2.1 (.inl (Nat.le_refl _)))))
            have HJn := Lib.hid (sym_join (by have := HD1.out.2.2.2; omega) (by omega) (by omega) HD1.out.2.1.2.2.2.2 HD2.out.2.1 HD2.out.2.2.1 HD3.out.2.1 HD3.out.2.2)
            go_wp2_with fail
            go_end0
            exact ⟨rfl, _, HD3.out.1, permIn_trans _ _ _ _ _ HD1.out.2.2.1 HJn.out.1, HJn.out.2⟩
end Go.Proofs.Ytkpklnalfomcbaa
end
section
namespace Go.Proofs.Ytkpklnalfomcbaa
open Go.RowKit Go.Proofs.Mem Go.Shelf Go.Sort Go.Lib
set_option linter.unusedVariables false
set_option linter.unusedSimpArgs false
theorem sym_on {w0 : World} {blk off cap : Nat} {d0 : Array Chc} (hB : Base w0 blk off d0) : ∀ (N a m b : Nat) (d : Array Chc) (W : World), b - a ≤ N → a < m → m < b → b ≤ d0.size → SWf w0 blk off d W → d.size = d0.size → SortedIn ltC a m d → SortedIn ltC m b d →
    Calls Try.prog 61 #[.slice (some ⟨blk, off, none⟩) d0.size cap, .int .i64 a, .int .i64 m, .int .i64 b, .func (.func 27) #[] #[]] W fun e w' => e = .returned (.tuple #[]) ∧ SymOk w0 blk off d a b w'
  | 0, a, m, b, d, W, h, h1, h2, _, _, _, _, _ => by omega
  | N + 1, a, m, b, d, W, h, h1, h2, h3, hW, hs, s1, s2 => by
    by_cases e1 : m = a + 1
    · exact sym_lo hB hW hs e1 h2 h3 s2
    · by_cases e2 : b = m + 1
      · exact sym_hi hB hW hs e2 h1 e1 h3 s1
      · exact sym_gen hB hW hs h1 h2 e1 e2 h3 s1 s2 (fun a' m' b' d' W' g1 g2 g3 g4 g5 g6 g7 g8 => sym_on hB N a' m' b' d' W' (by omega) g2 g3 g4 g5 g6 g7 g8)
def Blk (bs upto n : Nat) (d : Array Chc) : Prop := ∀ p, p < upto → bs ∣ p → SortedIn ltC p (min (p + bs) n) d
def BlkF (bs frm n : Nat) (d : Array Chc) : Prop := ∀ p, frm ≤ p → p < n → bs ∣ p → SortedIn ltC p (min (p + bs) n) d
theorem dvd_eq {k p a : Nat} (hp : k ∣ p) (ha : k ∣ a) (h1 : a ≤ p) (h2 : p < a + k) : p = a := by
  have h := (Nat.dvd_sub hp ha)
  have h0 := Nat.eq_zero_of_dvd_of_lt h (by omega)
  omega
theorem dvd_low {k p a : Nat} (hp : k ∣ p) (ha : k ∣ a) (h : p < a) : p + k ≤ a := by
  obtain ⟨x, rfl⟩ := hp
  obtain ⟨y, rfl⟩ := ha
  have hk : 0 < k := by
    rcases Nat.eq_zero_or_pos k with rfl | hk
    · simp at h
    · exact hk
  have hxy : x < y := Nat.lt_of_mul_lt_mul_left h
  have := Nat.mul_le_mul_left k (show x + 1 ≤ y from hxy)
  rw [Nat.mul_add, Nat.mul_one] at this
  exact this
section
variable {bs a b n : Nat} {d d' : Array Chc}
theorem blk_ins (h : Blk bs a n d) (ha : bs ∣ a) (hb : b = min (a + bs) n) (hp : PermIn a b d d') (hs : SortedIn ltC a b d') : Blk bs (a + bs) n d' := fun p h1 h2 => by
  by_cases e : p < a
  · have := dvd_low h2 ha e
    exact sorted_keep (h p e h2) hp (.inr (by omega))
  · have := dvd_eq h2 ha (by omega) h1
    subst this
    rw [← hb]
    exact hs
theorem blk_mono {u u' : Nat} (h : Blk bs u n d) (hu : ∀ p, p < u' → bs ∣ p → p < u) : Blk bs u' n d := fun p h1 h2 => h p (hu p h1 h2) h2
theorem blkf_of (h : Blk bs n n d) : BlkF bs 0 n d := fun p _ h2 h3 => h p h2 h3
theorem blk_all (h : Blk bs n n d) (hb : n ≤ bs) : SortedIn ltC 0 n d := by
  rcases Nat.eq_zero_or_pos n with rfl | hn
  · intro i j h1 h2 h3
    omega
  · have := h 0 hn (Nat.dvd_zero bs)
    rwa [Nat.zero_add, Nat.min_eq_right hb] at this
end
def StI (w0 : World) (blk off : Nat) (d0 : Array Chc) (W : World) (d : Array Chc) : Prop := SWf w0 blk off d W ∧ PermIn 0 d0.size d0 d
set_option maxHeartbeats 8000000 in
set_option maxRecDepth 100000 in
theorem stable_on {w0 : World} {blk off cap : Nat} {d0 : Array Chc} (hB : Base w0 blk off d0) (hn : d0.size ≤ 1000000) :
    Calls Try.prog 48 #[.slice (some ⟨blk, off, none⟩) d0.size cap, .int .i64 d0.size, .func (.func 27) #[] #[]] w0 fun e w' => e = .returned (.tuple #[]) ∧ SymOk w0 blk off d0 0 d0.size w' := by
  have HB := Lib.hid hB
  have h0 : Hid (StI w0 blk off d0 w0 d0) := Lib.hid ⟨SWK.start hB.H, permIn_refl _ _ _⟩
  obtain ⟨n, hnn⟩ : ∃ n, n = d0.size := ⟨_, rfl⟩
  have HN := Lib.hid hnn
  rw [← hnn] at hn ⊢
  clear hB hnn
  go_enter Try.func48, Try.ntmps48
  go_wp2_with fail
  go_loopw [7, 8] (fun va vb W => ∃ (a : Nat) (d : Array Chc), va = .int .i64 a ∧ vb = .int .i64 ((a + 20 : Nat) : Int) ∧ a ≤ n ∧ Hid (20 ∣ a ∧ StI w0 blk off d0 W d ∧ Blk 20 a n d)) (fun va _ _ => n - (intOf va).toNat)
  case atStart => exact ⟨0, d0, rfl, rfl, Nat.zero_le _, Lib.hid ⟨Nat.dvd_zero _, h0.out, fun p hp => absurd hp (Nat.not_lt_zero _)⟩⟩
  case round =>
    clear h0
    obtain ⟨a, d, rfl, rfl, han, hJ⟩ := hrel
    have hsz : d.size = d0.size := hJ.out.2.1.2.1
    have HSz := Lib.hid hsz
    clear hsz
    by_cases hab : a + 20 ≤ n
    · have HC := Lib.hid (ins_on (cap := cap) (a := a) (b := a + 20) HB.out hJ.out.2.1.1 HSz.out (by omega) (by have := HN.out; omega))
      rw [← HN.out] at HC
      have habz : (a : Int) + 20 ≤ n := by omega
      go_wp2_with fail
      refine HC.out.mono ?_
      rintro e W2 ⟨rfl, d2, hW2, hp2, hs2⟩
      have HE : Hid (20 ∣ a + 20 ∧ StI w0 blk off d0 W2 d2 ∧ Blk 20 (a + 20) n d2) := Lib.hid ⟨(Nat.dvd_add_right hJ.out.1).2 (Nat.dvd_refl 20), ⟨hW2, permIn_trans _ _ _ _ _ hJ.out.2.1.2 (permIn_mono _ _ _ _ _ _ (Nat.zero_le _) (by have := HN.out; omega) (by rw [HSz.out]; exact Nat.le_refl _) hp2)⟩, blk_ins hJ.out.2.2 hJ.out.1 (by omega) hp2 hs2⟩
      clear hW2 hp2 hs2 HC
      go_wp2_with fail
      exact ⟨⟨a + 20, d2, by go_num, by go_num, hab, HE⟩, by simp [intOf]; omega⟩
    · have HC := Lib.hid (ins_on (cap := cap) (a := a) (b := n) HB.out hJ.out.2.1.1 HSz.out han (by have := HN.out; omega))
      rw [← HN.out] at HC
      have habz : ¬ (a : Int) + 20 ≤ n := by omega
      go_wp2_with fail
      refine HC.out.mono ?_
      rintro e W2 ⟨rfl, d2, hW2, hp2, hs2⟩
      have HE : Hid (StI w0 blk off d0 W2 d2 ∧ Blk 20 n n d2) := Lib.hid ⟨⟨hW2, permIn_trans _ _ _ _ _ hJ.out.2.1.2 (permIn_mono _ _ _ _ _ _ (Nat.zero_le _) (by have := HN.out; omega) (by rw [HSz.out]; exact Nat.le_refl _) hp2)⟩, blk_mono (blk_ins hJ.out.2.2 hJ.out.1 (by omega) hp2 hs2) (fun p h1 _ => by omega)⟩
      clear hW2 hp2 hs2 HC hJ hab habz HSz
      go_wp2_with fail
      go_loopw [6] (fun vs W => ∃ (bs : Nat) (d : Array Chc), vs = .int .i64 bs ∧ 20 ≤ bs ∧ bs ≤ 2000040 ∧ Hid (StI w0 blk off d0 W d ∧ Blk bs n n d)) (fun vs _ => 4000000 - (intOf vs).toNat)
      case atStart => exact ⟨20, d2, rfl, Nat.le_refl _, by omega, HE⟩
      case round =>
        clear HE
        obtain ⟨bs, d, rfl, hbs, hbs2, hJ⟩ := hrel
        by_cases hlt : bs < n
        · have hd0 : bs ∣ bs + bs := (Nat.dvd_add_right (Nat.dvd_refl bs)).2 (Nat.dvd_refl bs)
          have HD := Lib.hid hd0
          have h1 : Hid (bs + bs ∣ 0 ∧ StI w0 blk off d0 wr d ∧ Blk (bs + bs) 0 n d ∧ BlkF bs 0 n d) := Lib.hid ⟨Nat.dvd_zero _, hJ.out.1, fun p hp => absurd hp (Nat.not_lt_zero _), blkf_of hJ.out.2⟩
          clear hJ hd0
          go_wp2_with fail
          go_loopw [7, 8] (fun va vb W => ∃ (a b : Nat) (d : Array Chc), va = .int .i64 a ∧ vb = .int .i64 b ∧ a ≤ n ∧ Hid (b = a + 2 * bs ∧ bs + bs ∣ a ∧ StI w0 blk off d0 W d ∧ Blk (bs + bs) a n d ∧ BlkF bs a n d)) (fun va _ _ => n - (intOf va).toNat)
          case atStart => exact ⟨0, 2 * bs, d, rfl, by go_num, Nat.zero_le _, Lib.hid ⟨by omega, h1.out⟩⟩
          case round =>
            clear h1
            obtain ⟨a, b, d, rfl, rfl, han, hJ⟩ := hrel
            have HSz := Lib.hid (show d.size = d0.size from hJ.out.2.2.1.2.1)
            have HBa := Lib.hid (Nat.dvd_trans HD.out hJ.out.2.1)
            obtain ⟨c, hc⟩ : ∃ c, c = a + bs := ⟨_, rfl⟩
            have eab : (a : Int) + bs = c := by omega
            have hbb := hJ.out.1
            have hn2 : d0.size = n := HN.out.symm
            by_cases hab : b ≤ n
            · have HC := Lib.hid (sym_on (cap := cap) HB.out _ a c b d _ (Nat.le_refl _) (by omega) (by omega) (by omega) hJ.out.2.2.1.1 HSz.out (by
                have h := hJ.out.2.2.2.2 a (Nat.le_refl _) (by omega) HBa.out
                rwa [Nat.min_eq_left (by omega), ← hc] at h) (by
                have h := hJ.out.2.2.2.2 c (by omega) (by omega) (by rw [hc]; exact (Nat.dvd_add_right HBa.out).2 (Nat.dvd_refl bs))
                rwa [show min (c + bs) n = b by omega] at h))
              rw [← HN.out] at HC
              have HB2 := Lib.hid (And.intro hbb hc)
              have hbig : b ≤ 1000000 := by omega
              clear hbb hc hn2
              go_wp2_with fail
              refine HC.out.mono ?_
              rintro e W3 ⟨rfl, d3, hW3, hp3, hs3⟩
              have hbb := HB2.out.1
              have hn2 : d0.size = n := HN.out.symm
              have HE : Hid (b + 2 * bs = b + 2 * bs ∧ bs + bs ∣ b ∧ StI w0 blk off d0 W3 d3 ∧ Blk (bs + bs) b n d3 ∧ BlkF bs b n d3) := by
                have hbe : b = a + (bs + bs) := by omega
                have hb1 := blk_ins (b := b) hJ.out.2.2.2.1 hJ.out.2.1 (by omega) hp3 hs3
                rw [← hbe] at hb1
                have hb2 : BlkF bs (a + bs + bs) n d3 := fun p h1 h2 h3 => sorted_keep (hJ.out.2.2.2.2 p (by omega) h2 h3) hp3 (.inl (by omega))
                rw [show a + bs + bs = b by omega] at hb2
                exact Lib.hid ⟨rfl, by rw [hbe]; exact (Nat.dvd_add_right hJ.out.2.1).2 (Nat.dvd_refl _), ⟨hW3, permIn_trans _ _ _ _ _ hJ.out.2.2.1.2 (permIn_mono _ _ _ _ _ _ (Nat.zero_le _) (by omega) (by rw [HSz.out]; exact Nat.le_refl _) hp3)⟩, hb1, hb2⟩
              clear hW3 hp3 hs3 HC hbb hn2
              go_wp2_with fail
              exact ⟨⟨b, b + 2 * bs, d3, rfl, by go_num, hab, Lib.hid ⟨rfl, HE.out.2⟩⟩, by have := HB2.out.1; simp [intOf]; omega⟩
            · by_cases hcn : c < n
              · have HC := Lib.hid (sym_on (cap := cap) HB.out _ a c n d _ (Nat.le_refl _) (by omega) (by omega) (by omega) hJ.out.2.2.1.1 HSz.out (by
                  have h := hJ.out.2.2.2.2 a (Nat.le_refl _) (by omega) HBa.out
                  rwa [Nat.min_eq_left (by omega), ← hc] at h) (by
                  have h := hJ.out.2.2.2.2 c (by omega) (by omega) (by rw [hc]; exact (Nat.dvd_add_right HBa.out).2 (Nat.dvd_refl bs))
                  rwa [show min (c + bs) n = n by omega] at h))
                rw [← HN.out] at HC
                have HB2 := Lib.hid (And.intro hbb hc)
                clear hbb hc hn2
                go_wp2_with fail
                refine HC.out.mono ?_
                rintro e W3 ⟨rfl, d3, hW3, hp3, hs3⟩
                have hbb := HB2.out.1
                have hn2 : d0.size = n := HN.out.symm
                have HE : Hid (StI w0 blk off d0 W3 d3 ∧ Blk (bs + bs) n n d3) := Lib.hid ⟨⟨hW3, permIn_trans _ _ _ _ _ hJ.out.2.2.1.2 (permIn_mono _ _ _ _ _ _ (Nat.zero_le _) (by omega) (by rw [HSz.out]; exact Nat.le_refl _) hp3)⟩, blk_mono (blk_ins (b := n) hJ.out.2.2.2.1 hJ.out.2.1 (by omega) hp3 hs3) (fun p h1 _ => by omega)⟩
                clear hW3 hp3 hs3 HC hbb hn2
                go_wp2_with fail
                exact ⟨⟨bs + bs, d3, by go_num, by omega, by omega, HE⟩, by simp [intOf]; omega⟩
              · have HE : Hid (StI w0 blk off d0 wr d ∧ Blk (bs + bs) n n d) := by
                  refine Lib.hid ⟨hJ.out.2.2.1, ?_⟩
                  by_cases ha : a < n
                  · have h := hJ.out.2.2.2.2 a (Nat.le_refl _) ha HBa.out
                    rw [show min (a + bs) n = n by omega] at h
                    exact blk_mono (blk_ins (b := n) hJ.out.2.2.2.1 hJ.out.2.1 (by omega) (permIn_refl (α := Chc) d a n) h) (fun p h1 _ => by omega)
                  · have hae : a = n := by omega
                    rw [hae] at hJ
                    exact hJ.out.2.2.2.1
                have HB2 := Lib.hid (And.intro hbb hc)
                clear hJ hbb hc hn2
                go_wp2_with fail
                exact ⟨⟨bs + bs, d, by go_num, by omega, by omega, HE⟩, by simp [intOf]; omega⟩
        · have HE : Hid (SymOk w0 blk off d0 0 n wr) := Lib.hid ⟨d, hJ.out.1.1, by rw [HN.out]; exact hJ.out.1.2, blk_all hJ.out.2 (by omega)⟩
          clear hJ
          go_wp2_with fail
          go_end0
          exact ⟨rfl, HE.out⟩
end Go.Proofs.Ytkpklnalfomcbaa
end
section
namespace Go.Proofs.Ytkpklnalfomcbaa
open Go.RowKit Go.Proofs.Mem Go.Shelf Go.Sort Go.Lib
set_option linter.unusedVariables false
set_option linter.unusedSimpArgs false
theorem flat_two : ∀ (l : List Chc) (t : Nat), (l.flatMap encC)[t]? = (l[t / 2]?).bind fun x => (encC x)[t % 2]?
  | [], t => by simp
  | a :: l, 0 => by simp [encC]
  | a :: l, 1 => by simp [encC]
  | a :: l, t + 2 => by
    have h := flat_two l t
    have e : (t + 2) / 2 = t / 2 + 1 := by omega
    have e2 : (t + 2) % 2 = t % 2 := by omega
    rw [e, e2, List.getElem?_cons_succ, ← h]
    simp [encC]
theorem flatK_list (d : Array Chc) : (flatK encC 2 d).toList = d.toList.flatMap encC := by
  apply List.ext_getElem?
  intro t
  rw [flat_two]
  by_cases ht : t < d.size * 2
  · have h2 : t / 2 < d.size := by omega
    have h3 : (flatK encC 2 d)[t]! = (encC d[t / 2]!)[t % 2]! := get_flatK encC 2 d t ht
    have hs : t < (flatK encC 2 d).size := by rw [size_flatK]; exact ht
    rw [Array.getElem?_toList, Array.getElem?_eq_getElem hs, ← getElem!_pos _ t hs, h3, Array.getElem?_toList, Array.getElem?_eq_getElem h2, getElem!_pos d _ h2]
    show _ = (encC d[t / 2])[t % 2]?
    have h4 : t % 2 < (encC d[t / 2]).length := by rw [encC_len]; omega
    rw [List.getElem?_eq_getElem h4, getElem!_pos (encC d[t / 2]) (t % 2) h4]
  · rw [Array.getElem?_toList, Array.getElem?_eq_none (by rw [size_flatK]; omega), Array.getElem?_toList, Array.getElem?_eq_none (by omega)]
    rfl
theorem take_putC (cur : Array Value) (F : Array Value) (h : F.size ≤ cur.size) : (putCells id 0 F cur).toList.take F.size = F.toList := by
  apply List.ext_getElem?
  intro j
  rw [List.getElem?_take]
  by_cases hj : j < F.size
  · rw [if_pos hj]
    simp [putCells, hj, show j < cur.size by omega]
  · rw [if_neg hj]
    simp at hj
    rw [List.getElem?_eq_none (by simpa using hj)]
theorem sw_world {w w' : World} {g : Nat} {cur : Array Value} {t : TypeId} {d' : Array Chc} (hb : Bk w g t cur) (h : SWf w g 0 d' w') : w.grownBy w' (some g) ∧ Bk w' g t (putCells id 0 (flatK encC 2 d') cur) := by
  obtain ⟨m, os, rfl⟩ := h
  have hlt := hb.lt
  have hsz : (sortWorldK encC 2 w g 0 m d' os).heap = w.heap.modify g (onCells (putCells id 0 (flatK encC 2 d'))) ++ os := rfl
  refine ⟨⟨rfl, rfl, rfl, by rw [hsz]; simp, fun k hk hne => ?_⟩, ?_⟩
  · rw [hsz, Array.getElem?_append_left (by simpa using hk), Array.getElem?_modify]
    have : ¬ g = k := fun e => hne (by rw [e])
    simp [this]
  · unfold Bk at hb ⊢
    rw [hsz, Array.getElem?_append_left (by simpa using hlt), Array.getElem?_modify, hb]
    simp [onCells]
theorem holds_own {w : World} {g : Nat} {t : TypeId} {cur : Array Value} (hb : Bk w g t cur) (d : Array Chc) (h : d.size * 2 ≤ cur.size) (ht : cur.toList.take (d.size * 2) = d.toList.flatMap encC) : HoldsK encC 2 w g 0 d := fun j hj => by
  rw [size_flatK] at hj
  have hs : j < (flatK encC 2 d).size := by rw [size_flatK]; exact hj
  refine ⟨?_, hb.frozen _⟩
  rw [Nat.zero_add, hb.cell j]
  have h1 : (cur.toList.take (d.size * 2))[j]? = cur[j]? := by
    rw [List.getElem?_take, if_pos hj, Array.getElem?_toList]
  rw [← h1, ht, ← flatK_list, Array.getElem?_toList, Array.getElem?_eq_getElem hs, ← getElem!_pos _ j hs]
  rfl
theorem stable_fn (g c : Nat) (l : List Chc) (w : World) (cur : Array Value) (hb : Bk w g 83 cur) (h : l.length * 2 ≤ cur.size) (ht : cur.toList.take (l.length * 2) = l.flatMap encC) (hlen : l.length ≤ 1000000) :
    Calls Try.prog 26 #[.slice (some ⟨g, 0, none⟩) l.length c, .func (.func 27) #[] #[]] w fun e w' => e = .returned (.tuple #[]) ∧ ∃ l' : List Chc, l'.Perm l ∧ l'.Pairwise leC ∧ w.grownBy w' (some g) ∧ Bk w' g 83 (putCells id 0 (flatK encC 2 l'.toArray) cur) := by
  have hB : Base w g 0 l.toArray := ⟨holds_own hb l.toArray (by simpa using h) (by simpa using ht), hb.lt, by simp; omega⟩
  have hS := Lib.hid (stable_on (cap := c) hB (by simpa using hlen))
  have hsz : l.toArray.size = l.length := by simp
  rw [hsz] at hS
  have HB := Lib.hid hb
  clear hB h ht hb hsz
  go_enter Try.func26, Try.ntmps26
  go_wp2_with fail
  refine hS.out.mono ?_
  rintro e w' ⟨rfl, d', hW, hp, hs⟩
  have HW := Lib.hid (And.intro hW (And.intro hp hs))
  clear hW hp hs
  go_wp2_with fail
  go_end0
  have hsz : d'.size = l.length := by have := HW.out.2.1.1; simpa using this
  have hperm : d'.toList.Perm l := by
    have h1 := HW.out.2.1.2.2
    rw [show d'.extract 0 l.length = d' by rw [← hsz]; simp, show l.toArray.extract 0 l.length = l.toArray by simp] at h1
    simpa using h1
  refine ⟨rfl, d'.toList, hperm, ?_, (sw_world HB.out HW.out.1).1, by simpa using (sw_world HB.out HW.out.1).2⟩
  rw [List.pairwise_iff_getElem]
  intro i j hi hj hij
  have hi' : i < d'.size := by simpa using hi
  have hj' : j < d'.size := by simpa using hj
  have h2 := HW.out.2.2 i j (Nat.zero_le _) hij (by omega)
  rw [getElem!_pos d' i hi', getElem!_pos d' j hj'] at h2
  show ltC _ _ = false
  simpa using h2
theorem sort_own (w : World) (base g c : Nat) (l : List Chc) (hown : w.ownsRow base 83 2 (.slice (some ⟨g, 0, none⟩) l.length c) l.length (l.flatMap encC)) (hlen : l.length ≤ 1000000) :
    Calls Try.prog 26 #[.slice (some ⟨g, 0, none⟩) l.length c, .func (.func 27) #[] #[]] w fun e w' => e = .returned (.tuple #[]) ∧ ∃ l' : List Chc, l'.Perm l ∧ l'.Pairwise leC ∧ w.grownBy w' (some g) ∧ w'.ownsRow base 83 2 (.slice (some ⟨g, 0, none⟩) l.length c) l.length (l'.flatMap encC) := by
  obtain ⟨hl, h2⟩ := hown
  rcases h2 with ⟨h2, _⟩ | ⟨g', cap, cur, hv, hbase, hg, hnc, hcm, hcs, htake⟩
  · cases h2
  · injection hv with e1 e2 e3
    injection e1 with e1
    injection e1 with e1
    subst e1
    subst e3
    refine (stable_fn g c l w cur hg (by rw [hcs]; exact Nat.mul_le_mul_right _ hnc) htake hlen).mono ?_
    rintro e w' ⟨rfl, l', hp, hs, hgr, hb⟩
    have hll : l'.length = l.length := hp.length_eq
    have hfs : (flatK encC 2 l'.toArray).size = l.length * 2 := by rw [size_flatK]; simp [hll]
    refine ⟨rfl, l', hp, hs, hgr, ?_, .inr ⟨g, c, _, rfl, hbase, hb, hnc, hcm, ?_, ?_⟩⟩
    · have h1 : ∀ l : List Chc, (l.flatMap encC).length = l.length * 2 := fun l => by
        induction l with
        | nil => rfl
        | cons a l ih => rw [List.flatMap_cons, List.length_append, ih, encC_len, List.length_cons]; omega
      rw [h1, hll]
    · rw [← hcs]
      unfold putCells
      simp
    · have h1 := take_putC cur (flatK encC 2 l'.toArray) (by rw [hfs, hcs]; exact Nat.mul_le_mul_right _ hnc)
      rw [hfs, flatK_list] at h1
      simpa using h1
theorem ins_nil (w : World) (v cv : Value) : Calls Try.prog 60 #[v, .int .i64 0, .int .i64 0, cv] w fun e w' => e = .returned (.tuple #[]) ∧ w = w' := by
  go_enter Try.func60, Try.ntmps60
  go_wp2_with fail
  refine wp_loop_rounds 1 ?_
  rw [rounds_succ]
  go_wp2_with fail
  go_end0
  exact ⟨rfl, rfl⟩
theorem stable_nil (w : World) (v cv : Value) : Calls Try.prog 48 #[v, .int .i64 0, cv] w fun e w' => e = .returned (.tuple #[]) ∧ w = w' := by
  go_enter Try.func48, Try.ntmps48
  go_wp2_with fail
  refine wp_loop_rounds 1 ?_
  rw [rounds_succ]
  go_wp2_with fail
  refine (ins_nil w v cv).mono ?_
  rintro e w' ⟨rfl, rfl⟩
  go_wp2_with fail
  refine wp_loop_rounds 1 ?_
  rw [rounds_succ]
  go_wp2_with fail
  go_end0
  exact ⟨rfl, rfl⟩
theorem sort_nil (w : World) (cv : Value) : Calls Try.prog 26 #[.slice none 0 0, cv] w fun e w' => e = .returned (.tuple #[]) ∧ w = w' := by
  go_enter Try.func26, Try.ntmps26
  go_wp2_with fail
  refine (stable_nil w _ cv).mono ?_
  rintro e w' ⟨rfl, rfl⟩
  go_wp2_with fail
  go_end0
  exact ⟨rfl, rfl⟩
end Go.Proofs.Ytkpklnalfomcbaa
end
section
namespace Go.Proofs.Ytkpklnalfomcbaa
open Go.RowKit Go.Proofs.Mem
open Go.WideMaps (keyOf_string_mk)
set_option linter.unusedVariables false
set_option linter.unusedSimpArgs false
def chkC (key : ByteArray) (skew : Int) : Int := if nmB key = true then (if skew < 1 ∨ 1000000 < skew then 1 else 0) else 6
theorem scheck_any (key : ByteArray) (skew : Int) (w : World) (hk : key.size ≤ maxLen) : Calls Try.prog 13 #[.agg #[.string key, .int .i64 skew]] w fun e w' => e = .returned (.int .i64 (chkC key skew)) ∧ Below w.heap.size w w' := by
  have kb := Bk.new w 23 #[.string key, .int .i64 skew]
  have d0 := kb.cell 0
  have d1 := kb.cell 1
  have HB := Lib.hid (below_al w (.cells #[.string key, .int .i64 skew] 23))
  have HC : Hid (chkC key skew = if nmB key = true then (if skew < 1 ∨ 1000000 < skew then 1 else 0) else 6) := Lib.hid rfl
  have CN := Lib.hid (fun w1 => lname_any key w1 hk)
  clear kb
  cases hn : nmB key with
  | false =>
    rw [hn] at CN
    go_enter Try.func13, Try.ntmps13
    go_wp2_with fail
    refine (CN.out _).mono ?_
    rintro e w1 ⟨rfl, rfl⟩
    go_wp2_with fail
    go_ret
    exact ⟨by rw [HC.out, hn]; rfl, HB.out⟩
  | true =>
    rw [hn] at CN
    by_cases h1 : skew < 1
    · go_enter Try.func13, Try.ntmps13
      go_wp2_with fail
      refine (CN.out _).mono ?_
      rintro e w1 ⟨rfl, rfl⟩
      go_wp2_with fail
      go_ret
      exact ⟨by rw [HC.out, if_pos hn, if_pos (.inl h1)]; rfl, HB.out⟩
    · by_cases h2 : 1000000 < skew
      · go_enter Try.func13, Try.ntmps13
        go_wp2_with fail
        refine (CN.out _).mono ?_
        rintro e w1 ⟨rfl, rfl⟩
        go_wp2_with fail
        go_ret
        exact ⟨by rw [HC.out, if_pos hn, if_pos (.inr h2)]; rfl, HB.out⟩
      · go_enter Try.func13, Try.ntmps13
        go_wp2_with fail
        refine (CN.out _).mono ?_
        rintro e w1 ⟨rfl, rfl⟩
        go_wp2_with fail
        go_ret
        exact ⟨by rw [HC.out, if_pos hn, if_neg (by omega)]; rfl, HB.out⟩
def LowIs (f : ByteArray → Nat) (h : ByteArray → Bool) (lo : Nat) : Prop := ∀ xs : List Nat, (∀ x, x ∈ xs ↔ ∃ p, h p = true ∧ f p = x) → xs.min?.getD 0 = lo
def fitB (f : ByteArray → Nat) (lo : Nat) (skew : Int) (p : ByteArray) : Bool := decide ((f p : Int) + 1 - lo ≤ skew)
theorem fits_any {f : ByteArray → Nat} {h : ByteArray → Bool} {lo : Nat} (key : ByteArray) (skew : Int) (p : ByteArray) {w : World} {mo n : Nat} {D : DataW Value} (hM : Mp Try.prog w 9 mo n D) (hC : CntM f h D) (hf : ∀ p, f p ≤ 5000) (hn : n ≤ 5000) (hL : LowIs f h lo) (hlo : lo ≤ 5000) (hp : p.size ≤ maxLen) :
    Calls Try.prog 25 #[.agg #[.string key, .int .i64 skew], .map (some mo), .string p] w fun e w' => e = .returned (.bool (fitB f lo skew p)) ∧ Below w.heap.size w w' := by
  have hB1 := below_al w (.cells #[.string key, .int .i64 skew] 23)
  have kb := Bk.new w 23 #[.string key, .int .i64 skew]
  obtain ⟨W1, hW1⟩ : ∃ W1, W1 = w.alloc (.cells #[.string key, .int .i64 skew] 23) := ⟨_, rfl⟩
  have HW := Lib.hid hW1.symm
  rw [← hW1] at hB1 kb
  have hM1 := hM.below hB1
  have CE := Lib.hid (ends_any hM1 hC hf hn)
  have HB := Lib.hid (And.intro hB1 (And.intro kb (And.intro hL (hM1))))
  have hkey := keyOf_string_mk Try.underlying9 hp
  have hv : valAt D (.string p.data.toList) (.int .i64 0) = .int .i64 (f p) := (hC p.data.toList).2
  have hfp := hf p
  obtain ⟨fp, hfe⟩ : ∃ n, n = f p := ⟨_, rfl⟩
  have HF : Hid (fitB f lo skew p = decide ((fp : Int) + 1 - lo ≤ skew)) := Lib.hid (by rw [hfe]; rfl)
  rw [← hfe] at hv hfp
  clear hB1 kb hW1 hM hM1 hC hf hL hfe
  go_enter Try.func25, Try.ntmps25
  go_wp2_with fail
  rw [HW.out]
  refine CE.out.mono ?_
  rintro e W2 ⟨xs, rfl, hx, b2⟩
  rw [HB.out.2.2.1 xs hx]
  have hm2 := HB.out.2.2.2.below b2
  have d1 := (HB.out.2.1.below' b2).cell 1
  have H2 := Lib.hid (below_tr HB.out.1 b2)
  clear b2 hx
  go_wp2_with (at_lookup; refine wpl_look rfl _ _ 77 rfl 9 3 strKs Try.underlying77 zeroIs mo n D rfl hm2 _ _ rfl hkey ?_; rw [hv])
  go_ret
  exact ⟨by rw [HF.out]; rfl, H2.out⟩
def chs (key : ByteArray) (f : ByteArray → Nat) (lo : Nat) (skew : Int) (l : List Ob) : List Chc := l.filterMap fun o => (plc key o).bind fun p => if fitB f lo skew p = true then some (o.name, (f p : Int)) else none
theorem chs_next {key : ByteArray} {f : ByteArray → Nat} {lo : Nat} {skew : Int} {l : List Ob} {j : Nat} {x : Ob} (hx : l[j]? = some x) : chs key f lo skew (l.take (j + 1)) = chs key f lo skew (l.take j) ++ (match plc key x with | none => [] | some p => if fitB f lo skew p = true then [(x.name, (f p : Int))] else []) := by
  unfold chs
  rw [List.take_add_one, hx, List.filterMap_append]
  congr 1
  show List.filterMap _ [x] = _
  cases hp : plc key x with
  | none => simp [hp]
  | some p =>
    by_cases hf : fitB f lo skew p = true
    · simp [hp, hf]
    · simp [hp, hf]
theorem chs_len {key : ByteArray} {f : ByteArray → Nat} {lo : Nat} {skew : Int} {l : List Ob} : (chs key f lo skew l).length ≤ l.length := List.length_filterMap_le ..
theorem info_chc : (Try.prog.info? 83).map (fun i => (i.zero, i.size, i.bytes)) = some (some (.agg #[.string ⟨#[]⟩, .int .i64 0]), 2, 24) := by kernel_rfl
theorem info_strS : (Try.prog.info? 9).map (fun i => (i.zero, i.size, i.bytes)) = some (some (.string ⟨#[]⟩), 1, 16) := by kernel_rfl
def PkI (w W2 : World) (bv : Array Value) (mo n : Nat) (D : DataW Value) (cl : List Chc) (v : Value) (W : World) : Prop :=
  ∃ A c, v = .slice A cl.length c ∧ W.ownsRow W2.heap.size 83 2 (.slice A cl.length c) cl.length (cl.flatMap encC) ∧ Mp Try.prog W 9 mo n D ∧ Bk W w.heap.size 23 bv ∧ Below W2.heap.size W2 W
def nmV (x : Chc) : Value := .string x.1
def PoI (W4 : World) (cl : List Chc) (j : Nat) (v : Value) (W : World) : Prop :=
  ∃ A c, v = .slice A j c ∧ W.ownsRow W4.heap.size 9 1 (.slice A j c) j ((cl.take j).map nmV) ∧ Below W4.heap.size W4 W
set_option maxHeartbeats 8000000 in
set_option maxRecDepth 100000 in
theorem pick_any (key : ByteArray) (skew : Int) (owner : ByteArray) (w : World) (A : Option Addr) (c : Nat) (nodes : List Ob) (hA : Sl w 47 (.slice A nodes.length c) nodes.length (nodes.flatMap Ob.cells)) (hok : ∀ x ∈ nodes, x.Ok w) (hu : (kys nodes).Nodup) (hn : nodes.length ≤ 1000)
    (A2 : Option Addr) (c2 : Nat) (pods : List Ob) (hA2 : Sl w 47 (.slice A2 pods.length c2) pods.length (pods.flatMap Ob.cells)) (hok2 : ∀ x ∈ pods, x.Ok w) (hn2 : pods.length ≤ 1000) (hk : key.size ≤ maxLen) (hch : chkC key skew = 0) (lo : Nat) (hlo : lo ≤ 5000) (hL : LowIs (cntN key owner nodes pods) (hasT key nodes nodes.length) lo) :
    Calls Try.prog 10 #[.agg #[.string key, .int .i64 skew], .string owner, .slice A nodes.length c, .slice A2 pods.length c2] w fun e w' => ∃ (v : Value) (cl : List Chc), e = .returned (.tuple #[v, .int .i64 0]) ∧ cl.Perm (chs key (cntN key owner nodes pods) lo skew nodes) ∧ cl.Pairwise leC ∧ Sl w' 1 v cl.length (cl.map nmV) ∧ Below w.heap.size w w' := by
  have hB1 := below_al w (.cells #[.string key, .int .i64 skew] 23)
  have k1 := Lib.hid (Bk.new w 23 #[.string key, .int .i64 skew])
  obtain ⟨W1, hW1⟩ : ∃ W1, W1 = w.alloc (.cells #[.string key, .int .i64 skew] 23) := ⟨_, rfl⟩
  have HW := Lib.hid hW1.symm
  rw [← hW1] at hB1 k1
  have HU := Lib.hid (Try.underlying57)
  have CH := Lib.hid (scheck_any key skew W1 hk)
  rw [hch] at CH
  have HL := Lib.hid (And.intro hA (And.intro hok (And.intro hn (And.intro hL hlo))))
  have CC := Lib.hid (fun (w1 : World) (hb : Below w.heap.size w w1) => counts_any key skew owner w1 A c nodes (hA.below hb) (fun x hx => (hok x hx).below hb) hu hn A2 c2 pods (hA2.below hb) (fun x hx => (hok2 x hx).below hb) hn2)
  have HB := Lib.hid hB1
  obtain ⟨f, hfd⟩ : ∃ f, f = cntN key owner nodes pods := ⟨_, rfl⟩
  have hf5 : ∀ p, f p ≤ 5000 := fun p => by
    rw [hfd]
    exact Nat.le_trans List.countP_le_length (by omega)
  rw [← hfd] at CC HL ⊢
  have HF5 := Lib.hid hf5
  clear hB1 hW1 hA hok hu hA2 hok2 hch hL hk hf5 hfd
  go_enter Try.func10, Try.ntmps10
  go_wp2_with (first | ((with_reducible refine at_load_ ?_); refine wpl_loadg k1.out rfl 23 (.tmp 4) rfl rfl _ Try.underlying23 rfl (by kernel_rfl) ?_))
  rw [HW.out]
  refine CH.out.mono ?_
  rintro e W1b ⟨rfl, b1b⟩
  have k1b := Lib.hid (k1.out.below' b1b)
  have HBb := Lib.hid (below_tr HB.out b1b)
  clear b1b
  go_wp2_with (first | ((with_reducible refine at_load_ ?_); refine wpl_loadg k1b.out rfl 23 (.tmp 4) rfl rfl _ Try.underlying23 rfl (by kernel_rfl) ?_))
  refine (CC.out _ HBb.out).mono ?_
  rintro e W2 ⟨mo, n, D, rfl, hM, hnm, hC, hmo, b2⟩
  have H2 := Lib.hid (below_tr HBb.out b2)
  have HM := Lib.hid (And.intro hC (And.intro (show n ≤ 5000 by omega) HF5.out))
  have h0 : Hid (PkI w W2 #[.string key, .int .i64 skew] mo n D (chs key f lo skew (nodes.take 0)) (.slice none 0 0) W2) := Lib.hid ⟨none, 0, rfl, World.ownsRow_nil _ _ _ _, hM, k1b.out.below' b2, Below.refl _ _⟩
  have HW2 := Lib.hid (And.intro hM (k1b.out.below' b2))
  clear hM hC hmo b2 CH CC HBb k1 k1b HB HW hnm
  go_wp2_with fail
  go_loopw [12, 32] (fun vl vi W => ∃ j : Nat, j ≤ nodes.length ∧ vi = .int .i64 j ∧ Hid (PkI w W2 #[.string key, .int .i64 skew] mo n D (chs key f lo skew (nodes.take j)) vl W)) (fun _ vi _ => nodes.length - (intOf vi).toNat)
  case atStart => exact ⟨0, Nat.zero_le _, rfl, h0⟩
  case round =>
    clear h0
    obtain ⟨j, hj, rfl, hJ⟩ := hrel
    have hnn := HL.out.2.2.1
    obtain ⟨cl, hcl⟩ : ∃ cl, cl = chs key f lo skew (nodes.take j) := ⟨_, rfl⟩
    have hclen : cl.length ≤ 1000 := by
      rw [hcl]
      exact Nat.le_trans chs_len (by rw [List.length_take]; omega)
    rw [← hcl] at hJ
    obtain ⟨Ao, co, rfl, hown, hm, hkb, hB⟩ := hJ.out
    clear hJ
    by_cases hlt : j < nodes.length
    · obtain ⟨b1, o1, x, L, W3, rfl, hxg, hC3⟩ := c47_of HL.out.1 HL.out.2.1 (below_tr H2.out hB) hlt
      have HR := Lib.hid hC3
      have hK3 := Lib.hid (hkb.below' hC3.b)
      have hnx := chs_next (key := key) (f := f) (lo := lo) (skew := skew) hxg
      rw [← hcl] at hnx
      have HJ := Lib.hid (And.intro (own_below hown hC3.b) (And.intro (hm.below hC3.b) (And.intro (below_tr hB hC3.b) hnx)))
      clear hC3 hxg hcl hnx hown hm hkb hB
      go_wp2_with (first | ((with_reducible refine at_load_ ?_); refine wpl_loadat4 HR.out.r rfl 57 (.tmp 34) rfl rfl _ HU.out rfl (by simpa using info47 HR.out.is) ?_; rw [HR.out.l]) | ((with_reducible refine at_alloc_ ?_); refine wpl_allocg rfl (run_alloc47 rfl _) ?_) | ((with_reducible refine at_store_ ?_); refine wpl_storeg HR.out.kz HR.out.zz rfl rfl 57 (.tmp 14) (.tmp 35) rfl rfl rfl (info47 HR.out.is) HR.out.is.2 ?_; rw [HR.out.w2]) | ((with_reducible refine at_load_ ?_); refine wpl_loadg hK3.out rfl 23 (.tmp 4) rfl rfl _ Try.underlying23 rfl (by kernel_rfl) ?_) | ((with_reducible refine at_load_ ?_); refine wpl_loadg HR.out.k rfl 57 (.tmp 14) rfl rfl _ HU.out rfl (info47 HR.out.is) ?_))
      rw [HR.out.e]
      refine (splace_any key skew x W3 HR.out.ok).mono ?_
      rintro e W4 ⟨rfl, b4⟩
      have hK4 := Lib.hid (hK3.out.below' b4)
      have HJ4 := Lib.hid (And.intro (own_below HJ.out.1 b4) (And.intro (HJ.out.2.1.below b4) (And.intro (below_tr HJ.out.2.2.1 b4) (HR.out.k.below' b4))))
      clear b4
      cases hq : plc key x with
      | none =>
        simp only [Option.getD_none, Option.isSome_none]
        have HE : Hid (PkI w W2 #[.string key, .int .i64 skew] mo n D (chs key f lo skew (nodes.take (j + 1))) (.slice Ao cl.length co) W4) := Lib.hid (by
          rw [HJ.out.2.2.2, hq, List.append_nil]
          exact ⟨Ao, co, rfl, HJ4.out.1, HJ4.out.2.1, hK4.out, HJ4.out.2.2.1⟩)
        clear hq
        go_wp2_with fail
        exact ⟨⟨j + 1, by omega, by go_num, HE⟩, by simp [intOf]; omega⟩
      | some q =>
        simp only [Option.getD_some, Option.isSome_some]
        have hqw := plc_wf HR.out.ok hq
        have HQ := Lib.hid hq
        clear hq
        go_wp2_with ((with_reducible refine at_load_ ?_); refine wpl_loadg hK4.out rfl 23 (.tmp 4) rfl rfl _ Try.underlying23 rfl (by kernel_rfl) ?_)
        refine (fits_any key skew q HJ4.out.2.1 HM.out.1 HM.out.2.2 HM.out.2.1 HL.out.2.2.2.1 HL.out.2.2.2.2 hqw).mono ?_
        rintro e W5 ⟨rfl, b5⟩
        have hown5 := own_below HJ4.out.1 b5
        have hm5 := HJ4.out.2.1.below b5
        have hB5 := below_tr HJ4.out.2.2.1 b5
        have hk5 := hK4.out.below' b5
        have c1 := (HJ4.out.2.2.2.below' b5).cell 1
        rw [show L[1]? = some (.string x.name) by rw [HR.out.e]; rfl] at c1
        clear b5
        cases hfit : fitB f lo skew q with
        | false =>
          have HE : Hid (PkI w W2 #[.string key, .int .i64 skew] mo n D (chs key f lo skew (nodes.take (j + 1))) (.slice Ao cl.length co) W5) := Lib.hid (by
            rw [HJ.out.2.2.2, HQ.out]
            simp only [hfit, Bool.false_eq_true, if_false, List.append_nil]
            exact ⟨Ao, co, rfl, hown5, hm5, hk5, hB5⟩)
          clear hown5 hm5 hB5 hk5 hfit
          go_wp2_with fail
          exact ⟨⟨j + 1, by omega, by go_num, HE⟩, by simp [intOf]; omega⟩
        | true =>
          have hkey := keyOf_string_mk Try.underlying9 hqw
          have hv : valAt D (.string q.data.toList) (.int .i64 0) = .int .i64 (f q) := (HM.out.1 q.data.toList).2
          obtain ⟨fq, hfq⟩ : ∃ n, n = f q := ⟨_, rfl⟩
          rw [← hfq] at hv
          have ho2 := hown5.alloc (.cells #[.string x.name, .int .i64 fq] 83)
          have hz := hB5.size
          have HX := Lib.hid (And.intro hfit (And.intro hfq (And.intro hB5 hk5)))
          clear hown5 hB5 hk5 hfit hfq
          go_wp2_with (first
            | (at_lookup; refine wpl_look rfl _ _ 77 rfl 9 3 strKs Try.underlying77 zeroIs mo n D rfl hm5 _ _ rfl hkey ?_; rw [hv])
            | (at_builtin; refine wpl_append rfl _ _ _ rfl W2.heap.size 83 _ 2 24 Try.underlying79 info_chc rfl (by omega) (by omega) _ cl.length _ rfl ho2 _ 1 [.string x.name, .int .i64 fq] rfl (Sl.made W5 #[.string x.name, .int .i64 fq] 83 1 1 (Nat.le_refl _) rfl) (by intro u hu; simp at hu; rcases hu with rfl | rfl <;> rfl) (by omega) (by simp; omega) ?_; intro v' w6 hown6 hgrow6 hor6))
          have HE : Hid (PkI w W2 #[.string key, .int .i64 skew] mo n D (chs key f lo skew (nodes.take (j + 1))) v' w6) := by
            obtain ⟨vA, vc, hve, _⟩ := id (Sl.of_own hown6)
            have hb6 := below_grown (below_tr HX.out.2.2.1 (below_al W5 _)) ho2 hgrow6 (by simp; omega) (Nat.le_refl _)
            refine Lib.hid ?_
            rw [HJ.out.2.2.2, HQ.out]
            simp only [HX.out.1, if_true]
            have hl1 : (cl ++ [(x.name, (f q : Int))]).length = cl.length + 1 := by simp
            refine ⟨vA, vc, by rw [hl1]; exact hve, ?_, HW2.out.1.below hb6, HW2.out.2.below' hb6, hb6⟩
            rw [hl1, ← hve, List.flatMap_append]
            rw [show List.flatMap encC [(x.name, (f q : Int))] = [.string x.name, .int .i64 fq] by rw [HX.out.2.1]; simp [encC]]
            exact hown6
          clear hown6 hgrow6 ho2 hor6
          go_wp2_with fail
          exact ⟨⟨j + 1, by omega, by go_num, HE⟩, by simp [intOf]; omega⟩
    · have hjl : j = nodes.length := by omega
      rw [hjl, List.take_length] at hcl
      have HCL := Lib.hid hcl
      clear hcl
      obtain ⟨s0, hs0⟩ : ∃ s, s = cl.length := ⟨_, rfl⟩
      have h1 : ∃ SV : Prop, SV := ⟨True, trivial⟩
      have hso : Calls Try.prog 26 #[.slice Ao cl.length co, .func (.func 27) #[] #[]] wr fun e w' => e = .returned (.tuple #[]) ∧ ∃ l' : List Chc, l'.Perm cl ∧ l'.Pairwise leC ∧ Below W2.heap.size W2 w' ∧ w'.ownsRow W2.heap.size 83 2 (.slice Ao cl.length co) cl.length (l'.flatMap encC) := by
        rcases id hown.2 with ⟨hv, hx⟩ | ⟨g, cap, cur, hv, hbase, _⟩
        · injection hv with e1 e2 e3
          subst e1
          subst e3
          have hc0 : cl = [] := List.length_eq_zero_iff.1 e2
          subst hc0
          refine (sort_nil wr _).mono ?_
          rintro e w' ⟨rfl, rfl⟩
          exact ⟨rfl, [], List.Perm.refl _, List.Pairwise.nil, hB, hown⟩
        · injection hv with e1 e2 e3
          subst e1
          subst e3
          refine (sort_own wr W2.heap.size g co cl hown (by omega)).mono ?_
          rintro e w' ⟨rfl, l', hp, hs, hgr, ho'⟩
          exact ⟨rfl, l', hp, hs, hB.grown hgr hB.size (fun k hk => by injection hk with hk; omega), ho'⟩
      have HSo := Lib.hid hso
      clear hso hown hm hkb hB h1 hs0
      go_wp2_with fail
      refine HSo.out.mono ?_
      rintro e W4 ⟨rfl, l', hp, hs, hB4, ho4⟩
      have hll : l'.length = cl.length := hp.length_eq
      have HS := Lib.hid (And.intro (hp.trans (List.Perm.of_eq HCL.out)) (And.intro hs (And.intro hB4 (And.intro (Sl.of_own ho4) hll))))
      have hcz : cl.length ≤ 1000 := hclen
      clear hp hs hB4 ho4 hll HSo
      have h2 : Hid (PoI W4 l' 0 (.slice none 0 0) W4) := Lib.hid ⟨none, 0, rfl, World.ownsRow_nil _ _ _ _, Below.refl _ _⟩
      obtain ⟨cn, hcn⟩ : ∃ n, n = cl.length := ⟨_, rfl⟩
      rw [← hcn] at HS hcz ⊢
      clear hcn
      go_wp2_with fail
      go_loopw [17, 63] (fun vo vi W => ∃ j : Nat, j ≤ cn ∧ vi = .int .i64 j ∧ Hid (PoI W4 l' j vo W)) (fun _ vi _ => cn - (intOf vi).toNat)
      case atStart => exact ⟨0, Nat.zero_le _, rfl, h2⟩
      case round =>
        clear h2
        obtain ⟨j, hj, rfl, hJ⟩ := hrel
        obtain ⟨Ap, cp, rfl, hown, hB⟩ := hJ.out
        clear hJ
        by_cases hlt2 : j < cn
        · obtain ⟨b1, o1, hAo, hb1, hadd1, hcell⟩ := Sl.row' (s := 2) (f := encC) (fun _ => rfl) (by omega) (by have h := HS.out.2.2.2.1; rw [← HS.out.2.2.2.2] at h; exact h.below hB) j (by rw [HS.out.2.2.2.2]; exact hlt2)
          subst hAo
          obtain ⟨x, hx⟩ : ∃ x, x = l'[j]'(by rw [HS.out.2.2.2.2]; exact hlt2) := ⟨_, rfl⟩
          have hxg : l'[j]? = some x := by rw [hx]; exact List.getElem?_eq_getElem _
          rw [← hx] at hcell
          have r0 : wr.cell? ⟨b1, o1 + j * 2, none⟩ = some (.string x.1) := hcell 0 _ rfl
          have r1 : wr.cell? ⟨b1, o1 + j * 2 + 1, none⟩ = some (.int .i64 x.2) := hcell 1 _ rfl
          have ho2 := (hown.alloc (.cells #[.string x.1, .int .i64 x.2] 83)).alloc (.cells #[.string x.1] 9)
          have hz := hB.size
          have t5 := Sl.made (size := 1) (wr.alloc (.cells #[.string x.1, .int .i64 x.2] 83)) #[.string x.1] 9 1 1 (Nat.le_refl _) rfl
          rw [World.size_alloc] at t5
          have HX := Lib.hid (And.intro hxg hB)
          clear hcell hx hown hB hxg hadd1 hb1
          go_wp2_with (first
            | (at_builtin; refine wpl_append rfl _ _ _ rfl W4.heap.size 9 _ 1 16 Try.underlying30 info_strS rfl (by omega) (by omega) _ j _ rfl ho2 _ 1 [.string x.1] rfl t5 (by intro u hu; simp at hu; subst hu; rfl) (by omega) (by simp; omega) ?_; intro v' w6 hown6 hgrow6 hor6))
          have HE : Hid (PoI W4 l' (j + 1) v' w6) := by
            obtain ⟨vA, vc, hve, _⟩ := id (Sl.of_own hown6)
            have hb6 := below_grown (below_tr HX.out.2 (below_tr (below_al wr _) (below_al _ _))) ho2 hgrow6 (by simp; omega) (Nat.le_refl _)
            refine Lib.hid ⟨vA, vc, hve, ?_, hb6⟩
            rw [← hve, List.take_add_one, HX.out.1, List.map_append]
            exact hown6
          clear hown6 hgrow6 ho2 hor6
          go_wp2_with fail
          exact ⟨⟨j + 1, by omega, by go_num, HE⟩, by simp [intOf]; omega⟩
        · have hjl2 : j = cn := by omega
          subst hjl2
          have HE := Lib.hid (And.intro hown hB)
          clear hown hB
          go_wp2_with fail
          go_ret2
          have hll := HS.out.2.2.2.2
          refine ⟨_, l', rfl, HS.out.1, HS.out.2.1, ?_, below_tr H2.out (HS.out.2.2.1.trans (HE.out.2.mono HS.out.2.2.1.size))⟩
          have := Sl.of_own HE.out.1
          rw [← hll, List.take_length] at this
          rw [← hll]
          exact this
end Go.Proofs.Ytkpklnalfomcbaa
end
section
namespace Go.Proofs.Ytkpklnalfomcbaa
open Go.RowKit Go.Proofs.Mem
set_option linter.unusedVariables false
set_option linter.unusedSimpArgs false
theorem flatN : ∀ (Ls : List (Array Value)), (∀ L ∈ Ls, L.size = 47) → ∀ k, (Ls.flatMap Array.toList)[k]? = (Ls[k / 47]?).bind fun L => L[k % 47]?
  | [], _, k => by simp
  | L :: Ls, h, k => by
    have hL := h L (List.mem_cons_self ..)
    have ih := flatN Ls (fun x hx => h x (List.mem_cons_of_mem _ hx))
    rw [List.flatMap_cons]
    by_cases hk : k < 47
    · have e1 : k / 47 = 0 := Nat.div_eq_of_lt hk
      have e2 : k % 47 = k := Nat.mod_eq_of_lt hk
      rw [List.getElem?_append_left (by simpa [hL] using hk), e1, e2]
      simp
    · have e1 : k / 47 = (k - 47) / 47 + 1 := by omega
      have e2 : k % 47 = (k - 47) % 47 := by omega
      rw [List.getElem?_append_right (by simp [hL]; omega), e1, e2, List.getElem?_cons_succ, ← ih (k - 47)]
      simp [hL]
theorem info_obj33 : (Try.prog.info? 57).map (fun i => (i.zero, i.size, i.bytes)) = some (some (.agg Z47), 47, 640) := by kernel_rfl
theorem fill_many (Ls : List (Array Value)) (hL : ∀ L ∈ Ls, L.size = 47) (cs : Array Value) (hc : cs.size = Ls.length * 47) : Instr.fill (fun i => some (i * 47, 47)) cs (((Ls.map Value.agg).zipIdx 0).map fun x => (x.2, x.1)) = some (Ls.flatMap Array.toList).toArray := by
  obtain ⟨r, h1, h2, h3⟩ := Go.Great.fill_dense (s := 47) (by omega) (Ls.map Value.agg) 0 cs (fun v hv => by
    obtain ⟨L, hl, rfl⟩ := List.mem_map.1 hv
    exact hL L hl) (by simp [hc])
  have e : r = (Ls.flatMap Array.toList).toArray := by
    apply Array.ext_getElem?
    intro k
    have e2 : (Ls.flatMap Array.toList).toArray[k]? = (Ls[k / 47]?).bind fun L => L[k % 47]? := by rw [List.getElem?_toArray, flatN Ls hL k]
    rw [h3 k, e2]
    by_cases hk : k < Ls.length * 47
    · rw [if_pos (by simp; omega), Nat.sub_zero, List.getElem?_map]
      cases Ls[k / 47]? <;> rfl
    · rw [if_neg (by simp; omega), Array.getElem?_eq_none (by omega), List.getElem?_eq_none (by omega)]
      rfl
  exact h1.trans (congrArg some e)
theorem run_buildO2 {ev : Operand → Value} {o : Oper} {L1 L2 : Array Value} {x1 x2 : Operand} (h1 : L1.size = 47) (h2 : L2.size = 47) (ho : o.op = .buildSlice 24 2 #[(0, x1), (1, x2)]) (g1 : ev x1 = .agg L1) (g2 : ev x2 = .agg L2) (w : World) : (execOp ev o).run Try.prog w = .ok (.value (.slice (some ⟨w.heap.size, 0, none⟩) 2 2)) (w.alloc (.cells ([L1, L2].flatMap Array.toList).toArray 57)) := by
  obtain ⟨ie, hie, hz, hs, _⟩ := info_parts info_obj33
  have hf : Instr.fill (fun i => some (i * ie.size, ie.size)) ((Array.range (2 * ie.size)).map ((Value.agg Z47).cells[· % (Value.agg Z47).cells.size]!)) (#[((0 : Nat), Value.agg L1), (1, Value.agg L2)]).toList = some ([L1, L2].flatMap Array.toList).toArray := by
    rw [hs]
    exact fill_many [L1, L2] (by simp only [List.mem_cons, List.not_mem_nil, or_false]; rintro L (rfl | rfl) <;> assumption) _ (by simp)
  have hr := run_buildSlice (P := Try.prog) w 24 57 2 #[(0, .agg L1), (1, .agg L2)] ([L1, L2].flatMap Array.toList).toArray ie (.agg Z47) Try.underlying24 hie hz (by rw [hs]; omega) (by rw [hs]; omega) hf
  unfold execOp
  simp only [ho, Array.map, List.map_toArray, List.map_cons, List.map_nil, g1, g2, Sem.run_bind, hr, Result.andThen_ok, Sem.run_pure]
  simp [g1, g2, Sem.run_bind, hr, Result.andThen_ok, Sem.run_pure]
theorem run_buildO3 {ev : Operand → Value} {o : Oper} {L1 L2 L3 : Array Value} {x1 x2 x3 : Operand} (h1 : L1.size = 47) (h2 : L2.size = 47) (h3 : L3.size = 47) (ho : o.op = .buildSlice 24 3 #[(0, x1), (1, x2), (2, x3)]) (g1 : ev x1 = .agg L1) (g2 : ev x2 = .agg L2) (g3 : ev x3 = .agg L3) (w : World) : (execOp ev o).run Try.prog w = .ok (.value (.slice (some ⟨w.heap.size, 0, none⟩) 3 3)) (w.alloc (.cells ([L1, L2, L3].flatMap Array.toList).toArray 57)) := by
  obtain ⟨ie, hie, hz, hs, _⟩ := info_parts info_obj33
  have hf : Instr.fill (fun i => some (i * ie.size, ie.size)) ((Array.range (3 * ie.size)).map ((Value.agg Z47).cells[· % (Value.agg Z47).cells.size]!)) (#[((0 : Nat), Value.agg L1), (1, Value.agg L2), (2, Value.agg L3)]).toList = some ([L1, L2, L3].flatMap Array.toList).toArray := by
    rw [hs]
    exact fill_many [L1, L2, L3] (by simp only [List.mem_cons, List.not_mem_nil, or_false]; rintro L (rfl | rfl | rfl) <;> assumption) _ (by simp)
  have hr := run_buildSlice (P := Try.prog) w 24 57 3 #[(0, .agg L1), (1, .agg L2), (2, .agg L3)] ([L1, L2, L3].flatMap Array.toList).toArray ie (.agg Z47) Try.underlying24 hie hz (by rw [hs]; omega) (by rw [hs]; omega) hf
  unfold execOp
  simp only [ho, Array.map, List.map_toArray, List.map_cons, List.map_nil, g1, g2, g3, Sem.run_bind, hr, Result.andThen_ok, Sem.run_pure]
  simp [g1, g2, g3, Sem.run_bind, hr, Result.andThen_ok, Sem.run_pure]
def zoneB : ByteArray := ⟨#[122, 111, 110, 101]⟩
def eB : ByteArray := ⟨#[]⟩
def nilL {α : Type} : Row α := ⟨.slice none 0 0, []⟩
def wl33 : Wl := ⟨0, 0, 0, nilL, nilL, nilL, 0⟩
def pd33 : Pd := ⟨eB, eB, 0, 0, 0, 0, nilL, nilL, nilL, 0⟩
def gr33 : Gr := ⟨0, 0, 0, 0, 0, nilL, nilL, 0⟩
def hp33 : Hp := ⟨eB, 0, 0, nilL, 0, ⟨0, 0, nilL⟩, ⟨0, 0, nilL⟩, nilL⟩
def node33 (name place : ByteArray) (b : Nat) : Ob := ⟨2, name, 0, wl33, pd33, ⟨eB, 0, 0, ⟨.slice (some ⟨b, 0, none⟩) 1 1, [⟨zoneB, place⟩]⟩, nilL, 0, false⟩, gr33, hp33⟩
def pod33 (name at' : ByteArray) : Ob := ⟨1, name, 0, wl33, ⟨⟨#[119]⟩, at', 2, 0, 0, 0, nilL, nilL, nilL, 0⟩, ⟨eB, 0, 0, nilL, nilL, 0, false⟩, gr33, hp33⟩
theorem nil_ok {α : Type} {W : World} {s b : Nat} {f : α → List Value} {p : α → Prop} : (nilL : Row α).Ok W s b f p := ⟨Sl.nil W s, by simp [nilL], fun x hx => by cases hx⟩
theorem wfe : wfs eB := by unfold wfs eB reachBytes; decide
theorem wfw : wfs ⟨#[119]⟩ := by unfold wfs reachBytes; decide
theorem wfz : wfs zoneB := by unfold wfs zoneB reachBytes; decide
theorem wl33_ok (W : World) : wl33.Ok W := ⟨rfl, rfl, rfl, nil_ok, nil_ok, nil_ok, rfl⟩
theorem gr33_ok (W : World) : gr33.Ok W := ⟨rfl, rfl, rfl, rfl, rfl, nil_ok, nil_ok, rfl⟩
theorem hp33_ok (W : World) : hp33.Ok W := ⟨wfe, rfl, rfl, nil_ok, rfl, ⟨rfl, rfl, nil_ok⟩, ⟨rfl, rfl, nil_ok⟩, nil_ok⟩
theorem pod33_ok (W : World) (name at' : ByteArray) (h1 : wfs name) (h2 : wfs at') : (pod33 name at').Ok W := ⟨rfl, h1, rfl, wl33_ok W, ⟨wfw, h2, rfl, rfl, rfl, rfl, nil_ok, nil_ok, nil_ok, rfl⟩, ⟨wfe, rfl, rfl, nil_ok, nil_ok, rfl⟩, gr33_ok W, hp33_ok W⟩
theorem node33_ok (W : World) (name place : ByteArray) (b : Nat) (h1 : wfs name) (h2 : wfs place) (hb : Bk W b 96 #[.string zoneB, .string place]) : (node33 name place b).Ok W := by
  refine ⟨rfl, h1, rfl, wl33_ok W, ⟨wfe, wfe, rfl, rfl, rfl, rfl, nil_ok, nil_ok, nil_ok, rfl⟩, ⟨wfe, rfl, rfl, ⟨⟨some ⟨b, 0, none⟩, 1, rfl, Nat.le_refl _, (fun h => by cases h), rfl, fun _ => ⟨_, rfl, hb.lt, fun j u hu => ?_⟩⟩, by show 1 * 32 ≤ reachBytes; decide, fun x hx => ?_⟩, nil_ok, rfl⟩, gr33_ok W, hp33_ok W⟩
  · rw [add_lit, Nat.zero_add, hb.cell]
    rcases j with _ | _ | j
    · exact hu
    · exact hu
    · change ([.string zoneB, .string place] : List Value)[j + 2]? = some u at hu
      simp at hu
  · have : x = ⟨zoneB, place⟩ := by simpa [node33] using hx
    subst this
    exact ⟨wfz, h2⟩
def nd33 (b : Nat) : Array Value := #[.string eB, .int .i64 0, .int .i64 0, .slice (some ⟨b, 0, none⟩) 1 1, .slice none 0 0, .int .i64 0, .bool false]
theorem run_nd33 {ev : Operand → Value} {o : Oper} {b : Nat} (ho : o.op = .build 46 #[(2, .tmp 8)]) (h8 : ev (.tmp 8) = .slice (some ⟨b, 0, none⟩) 1 1) (w : World) : (execOp ev o).run Try.prog w = .ok (.value (.agg (nd33 b))) w := by
  unfold execOp
  simp only [ho]
  unfold nd33 eB
  go_simp
theorem run_no33 {ev : Operand → Value} {o : Oper} {s p : ByteArray} {b : Nat} (ho : o.op = .build 57 #[(0, .const (.int .i64 2)), (1, .tmp 5), (5, .tmp 9)]) (h5 : ev (.tmp 5) = .string s) (h9 : ev (.tmp 9) = .agg (nd33 b)) (hc : ∀ v, ev (.const v) = v) (w : World) : (execOp ev o).run Try.prog w = .ok (.value (.agg (node33 s p b).cells.toArray)) w := by
  have e : (node33 s p b).cells.toArray = #[.int .i64 2, .string s, .int .u64 0, .int .i64 0, .int .i64 0, .int .i64 0, .slice none 0 0, .slice none 0 0, .slice none 0 0, .int .i64 0, .string eB, .string eB, .int .i64 0, .int .i64 0, .int .i64 0, .int .i64 0, .slice none 0 0, .slice none 0 0, .slice none 0 0, .int .i64 0, .string eB, .int .i64 0, .int .i64 0, .slice (some ⟨b, 0, none⟩) 1 1, .slice none 0 0, .int .i64 0, .bool false, .int .i64 0, .int .i64 0, .int .i64 0, .int .i64 0, .int .i64 0, .slice none 0 0, .slice none 0 0, .int .i64 0, .string eB, .int .i64 0, .int .i64 0, .slice none 0 0, .int .i64 0, .int .i64 0, .int .i64 0, .slice none 0 0, .int .i64 0, .int .i64 0, .slice none 0 0, .slice none 0 0] := rfl
  rw [e]
  unfold execOp
  simp only [ho]
  unfold nd33 at h9
  unfold eB at *
  go_simp
theorem wpl_val33 {P : Program} {ops : Array Oper} {rest : List Oper} {o : Oper} {a : Act} {w : World} {Q : Exit → Act → World → Prop} {v : Value} (hw : Region.wanted o (yielded ops a.tmps) = true) (hr : (execOp a.eval o).run P w = .ok (.value v) w)
    (h : wpList P ops Q rest (a.put o.dst v) w) : wpList P ops Q (o :: rest) a w := by
  refine wpList_step fun K hK => ?_
  rw [if_pos hw]
  unfold Oper.wp
  rw [hr]
  exact hK _ _ h
theorem bk_setCells {g b : Nat} {t : TypeId} {cs : Array Value} (hne : g ≠ b) : ∀ (L : List Value) (o : Nat) (W : World), Bk W g t cs → Bk (W.setCells b o L) g t cs
  | [], _, _, h => h
  | v :: L, o, W, h => bk_setCells hne L (o + 1) _ (h.far (p := ⟨b, o, none⟩) hne v)
set_option maxHeartbeats 2000000 in
set_option maxRecDepth 100000 in
theorem node33_any (name place : ByteArray) (w : World) (h1 : wfs name) (h2 : wfs place) : Calls Try.prog 18 #[.string name, .string place] w fun e w' => e = .returned (.agg (node33 name place (w.heap.size + 1)).cells.toArray) ∧ (node33 name place (w.heap.size + 1)).Ok w' ∧ Below w.heap.size w w' := by
  have kz := (Bk.new w 57 Z47).alloc (.cells #[.string zoneB, .string place] 96)
  have kl := Bk.new (w.alloc (.cells Z47 57)) 96 #[.string zoneB, .string place]
  rw [World.size_alloc] at kl
  have B0 := below_tr (below_al w (.cells Z47 57)) (below_al _ (.cells #[.string zoneB, .string place] 96))
  obtain ⟨L, hLe⟩ : ∃ L, L = (node33 name place (w.heap.size + 1)).cells.toArray := ⟨_, rfl⟩
  have hL : Is47 L := by rw [hLe]; exact ⟨rfl, rfl⟩
  have hzz : Z47.size = L.size := hL.1.symm
  have HL := Lib.hid hL
  have HE := Lib.hid hLe
  rw [← hLe]
  clear hL hLe
  have HK := Lib.hid (And.intro kz (And.intro kl (And.intro B0 hzz)))
  clear kz kl B0 hzz
  go_enter Try.func18, Try.ntmps18
  go_wp2_with (first | ((with_reducible refine at_alloc_ ?_); refine wpl_allocg rfl (run_alloc47 rfl _) ?_) | (refine wpl_val33 rfl (run_nd33 (b := w.heap.size + 1) rfl rfl _) ?_) | (refine wpl_val33 rfl (run_no33 (s := name) (p := place) (b := w.heap.size + 1) rfl rfl rfl (fun _ => rfl) _) ?_; rw [← HE.out]) | ((with_reducible refine at_store_ ?_); refine wpl_storeg HK.out.1 HK.out.2.2.2 rfl rfl 57 (.tmp 4) (.tmp 10) rfl rfl rfl (info47 HL.out) HL.out.2 ?_))
  refine bodyPost_ret (v := .agg L) ?_ rfl ⟨rfl, node33_ok _ name place _ h1 h2 (bk_setCells (by omega) L.toList 0 _ HK.out.2.1), below_setCells (g := w.heap.size) L.toList 0 HK.out.2.2.1 (Nat.le_refl _)⟩
  exact results_obj (setCells_whole HK.out.1 HK.out.2.2.2) HL.out rfl rfl
def pd33w (at' : ByteArray) : Array Value := #[.string ⟨#[119]⟩, .string at', .int .i64 2, .int .i64 0, .int .i64 0, .int .i64 0, .slice none 0 0, .slice none 0 0, .slice none 0 0, .int .i64 0]
theorem run_pd33 {ev : Operand → Value} {o : Oper} {s : ByteArray} (ho : o.op = .build 44 #[(0, .const (.string ⟨#[119]⟩)), (1, .tmp 6), (2, .const (.int .i64 2))]) (h6 : ev (.tmp 6) = .string s) (hc : ∀ v, ev (.const v) = v) (w : World) : (execOp ev o).run Try.prog w = .ok (.value (.agg (pd33w s))) w := by
  unfold execOp
  simp only [ho]
  unfold pd33w
  go_simp
theorem run_po33 {ev : Operand → Value} {o : Oper} {s p : ByteArray} (ho : o.op = .build 57 #[(0, .const (.int .i64 1)), (1, .tmp 5), (4, .tmp 7)]) (h5 : ev (.tmp 5) = .string s) (h7 : ev (.tmp 7) = .agg (pd33w p)) (hc : ∀ v, ev (.const v) = v) (w : World) : (execOp ev o).run Try.prog w = .ok (.value (.agg (pod33 s p).cells.toArray)) w := by
  have e : (pod33 s p).cells.toArray = #[.int .i64 1, .string s, .int .u64 0, .int .i64 0, .int .i64 0, .int .i64 0, .slice none 0 0, .slice none 0 0, .slice none 0 0, .int .i64 0, .string ⟨#[119]⟩, .string p, .int .i64 2, .int .i64 0, .int .i64 0, .int .i64 0, .slice none 0 0, .slice none 0 0, .slice none 0 0, .int .i64 0, .string eB, .int .i64 0, .int .i64 0, .slice none 0 0, .slice none 0 0, .int .i64 0, .bool false, .int .i64 0, .int .i64 0, .int .i64 0, .int .i64 0, .int .i64 0, .slice none 0 0, .slice none 0 0, .int .i64 0, .string eB, .int .i64 0, .int .i64 0, .slice none 0 0, .int .i64 0, .int .i64 0, .int .i64 0, .slice none 0 0, .int .i64 0, .int .i64 0, .slice none 0 0, .slice none 0 0] := rfl
  rw [e]
  unfold execOp
  simp only [ho]
  unfold pd33w at h7
  unfold eB at *
  go_simp
set_option maxHeartbeats 2000000 in
set_option maxRecDepth 100000 in
theorem pod33_any (name at' : ByteArray) (w : World) (h1 : wfs name) (h2 : wfs at') : Calls Try.prog 12 #[.string name, .string at'] w fun e w' => e = .returned (.agg (pod33 name at').cells.toArray) ∧ Below w.heap.size w w' := by
  have kz := Bk.new w 57 Z47
  have B0 := below_al w (.cells Z47 57)
  obtain ⟨L, hLe⟩ : ∃ L, L = (pod33 name at').cells.toArray := ⟨_, rfl⟩
  have hL : Is47 L := by rw [hLe]; exact ⟨rfl, rfl⟩
  have hzz : Z47.size = L.size := hL.1.symm
  have HL := Lib.hid hL
  have HE := Lib.hid hLe
  rw [← hLe]
  clear hL hLe
  have HK := Lib.hid (And.intro kz (And.intro B0 hzz))
  clear kz B0 hzz
  go_enter Try.func12, Try.ntmps12
  go_wp2_with (first | ((with_reducible refine at_alloc_ ?_); refine wpl_allocg rfl (run_alloc47 rfl _) ?_) | (refine wpl_val33 rfl (run_pd33 (s := at') rfl rfl (fun _ => rfl) _) ?_) | (refine wpl_val33 rfl (run_po33 (s := name) (p := at') rfl rfl rfl (fun _ => rfl) _) ?_; rw [← HE.out]) | ((with_reducible refine at_store_ ?_); refine wpl_storeg HK.out.1 HK.out.2.2 rfl rfl 57 (.tmp 4) (.tmp 8) rfl rfl rfl (info47 HL.out) HL.out.2 ?_))
  refine bodyPost_ret (v := .agg L) ?_ rfl ⟨rfl, below_setCells (g := w.heap.size) L.toList 0 HK.out.2.1 (Nat.le_refl _)⟩
  exact results_obj (setCells_whole HK.out.1 HK.out.2.2) HL.out rfl rfl
end Go.Proofs.Ytkpklnalfomcbaa
end
section
namespace Go.Proofs.Ytkpklnalfomcbaa
open Go.RowKit Go.Proofs.Mem
set_option linter.unusedVariables false
set_option linter.unusedSimpArgs false
def nB : ByteArray := ⟨#[110]⟩
def mB : ByteArray := ⟨#[109]⟩
def aB : ByteArray := ⟨#[97]⟩
def bB : ByteArray := ⟨#[98]⟩
def wB : ByteArray := ⟨#[119]⟩
def lNodes (x y : Nat) : List Ob := [node33 nB aB x, node33 mB bB y]
def lPods : List Ob := [pod33 ⟨#[120]⟩ nB, pod33 ⟨#[121]⟩ nB, pod33 ⟨#[122]⟩ mB]
theorem l_plc (name place : ByteArray) (b : Nat) : plc zoneB (node33 name place b) = some place := by
  unfold plc getL node33
  simp
theorem l_atN (x y : Nat) (n : ByteArray) : atN zoneB (lNodes x y) n = if nB = n then some aB else if mB = n then some bB else none := by
  unfold atN lNodes
  have e1 : (node33 nB aB x).name = nB := rfl
  have e2 : (node33 mB bB y).name = mB := rfl
  simp only [List.findSome?_cons, l_plc, e1, e2, List.findSome?_nil]
  by_cases h1 : nB = n
  · simp [h1]
  · by_cases h2 : mB = n
    · simp [h1, h2]
    · simp [h1, h2]
theorem l_isP (name at' : ByteArray) : isP wB (pod33 name at') = true := by
  unfold isP pod33 wB
  simp
theorem l_ne : nB ≠ mB ∧ aB ≠ bB := by decide
theorem l_cnt (x y : Nat) (p : ByteArray) : cntN zoneB wB (lNodes x y) lPods p = (if aB = p then 2 else 0) + (if bB = p then 1 else 0) := by
  have hne := l_ne
  have e1 : ∀ a b, (pod33 a b).p.node = b := fun _ _ => rfl
  unfold cntN lPods
  simp only [List.countP_cons, List.countP_nil, l_isP, l_atN, e1, Bool.true_and]
  by_cases h1 : aB = p
  · subst h1
    have : ¬ bB = aB := fun h => hne.2 h.symm
    simp [hne.1, this, hne.1]
  · by_cases h2 : bB = p
    · subst h2
      simp [hne.1, hne.2]
    · simp [h1, h2, hne.1]
theorem l_PL (x y : Nat) : PL zoneB (lNodes x y) = [aB, bB] := by
  unfold PL lNodes
  simp [l_plc]
theorem l_low (x y : Nat) : LowIs (cntN zoneB wB (lNodes x y) lPods) (hasT zoneB (lNodes x y) (lNodes x y).length) 1 := fun xs hx => by
  have h : ∀ v, v ∈ xs ↔ v ∈ [2, 1] := fun v => by
    rw [hx]
    have hne := l_ne
    constructor
    · rintro ⟨p, hp, rfl⟩
      rw [hasT_all, l_PL] at hp
      rw [l_cnt]
      simp only [List.mem_cons, List.not_mem_nil, or_false] at hp
      rcases hp with rfl | rfl
      · have : ¬ bB = aB := fun h => hne.2 h.symm
        simp [this]
      · simp [hne.2]
    · intro hv
      simp only [List.mem_cons, List.not_mem_nil, or_false] at hv
      rcases hv with rfl | rfl
      · refine ⟨aB, by rw [hasT_all, l_PL]; simp, ?_⟩
        have : ¬ bB = aB := fun h => hne.2 h.symm
        rw [l_cnt]
        simp [this]
      · refine ⟨bB, by rw [hasT_all, l_PL]; simp, ?_⟩
        rw [l_cnt]
        simp [hne.2]
  rw [min_mem h]
  rfl
theorem l_chs (x y : Nat) : chs zoneB (cntN zoneB wB (lNodes x y) lPods) 1 1 (lNodes x y) = [(mB, 1)] := by
  have hne := l_ne
  have hne2 : ¬ bB = aB := fun h => hne.2 h.symm
  have f1 : fitB (cntN zoneB wB (lNodes x y) lPods) 1 1 aB = false := by
    unfold fitB
    rw [l_cnt]
    simp [hne2]
  have f2 : fitB (cntN zoneB wB (lNodes x y) lPods) 1 1 bB = true := by
    unfold fitB
    rw [l_cnt]
    simp [hne.2]
  have c2 : cntN zoneB wB (lNodes x y) lPods bB = 1 := by rw [l_cnt]; simp [hne.2]
  unfold chs
  generalize cntN zoneB wB (lNodes x y) lPods = f at f1 f2 c2
  unfold lNodes
  have e2 : (node33 mB bB y).name = mB := rfl
  simp [l_plc, f1, f2, c2, e2]
end Go.Proofs.Ytkpklnalfomcbaa
end
section
namespace Go.Proofs.Ytkpklnalfomcbaa
open Go.RowKit Go.Proofs.Mem
set_option linter.unusedVariables false
set_option linter.unusedSimpArgs false
theorem wpl_run33 {P : Program} {ops : Array Oper} {rest : List Oper} {o : Oper} {a : Act} {w w' : World} {Q : Exit → Act → World → Prop} {v : Value} (hw : Region.wanted o (yielded ops a.tmps) = true) (hr : (execOp a.eval o).run P w = .ok (.value v) w')
    (h : wpList P ops Q rest (a.put o.dst v) w') : wpList P ops Q (o :: rest) a w := by
  refine wpList_step fun K hK => ?_
  rw [if_pos hw]
  unfold Oper.wp
  rw [hr]
  exact hK _ _ h
theorem wfs_small {s : ByteArray} (h : s.size ≤ 1000) : wfs s := by unfold wfs reachBytes; omega
theorem l_nmB : chkC zoneB 1 = 0 := by
  have : nmB zoneB = true := by decide
  unfold chkC
  rw [this]
  rfl
theorem lNodes_ok {W : World} {x y : Nat} (h1 : (node33 nB aB x).Ok W) (h2 : (node33 mB bB y).Ok W) : ∀ o ∈ lNodes x y, o.Ok W := fun o ho => by
  unfold lNodes at ho
  simp only [List.mem_cons, List.not_mem_nil, or_false] at ho
  rcases ho with rfl | rfl <;> assumption
theorem lPods_ok (W : World) : ∀ o ∈ lPods, o.Ok W := fun o ho => by
  unfold lPods at ho
  simp only [List.mem_cons, List.not_mem_nil, or_false] at ho
  rcases ho with rfl | rfl | rfl <;> exact pod33_ok _ _ _ (wfs_small (by decide)) (wfs_small (by decide))
set_option maxHeartbeats 4000000 in
set_option maxRecDepth 100000 in
theorem lives33_any (w : World) : Calls Try.prog 6 #[] w fun e w' => e = .returned (.bool true) ∧ Below w.heap.size w w' := by
  have N1 := Lib.hid (node33_any nB aB w (wfs_small (by decide)) (wfs_small (by decide)))
  go_enter Try.func6, Try.ntmps6
  go_wp2_with fail
  refine N1.out.mono ?_
  rintro e W1 ⟨rfl, ok1, b1⟩
  obtain ⟨x, hx⟩ : ∃ x, x = w.heap.size + 1 := ⟨_, rfl⟩
  rw [← hx] at ok1 ⊢
  obtain ⟨L1, hL1⟩ : ∃ L, L = (node33 nB aB x).cells.toArray := ⟨_, rfl⟩
  rw [← hL1]
  have N2 := Lib.hid (node33_any mB bB W1 (wfs_small (by decide)) (wfs_small (by decide)))
  have H1 := Lib.hid (And.intro ok1 (And.intro b1 hL1))
  clear ok1 b1 hx hL1 N1
  go_wp2_with fail
  refine N2.out.mono ?_
  rintro e W2 ⟨rfl, ok2, b2⟩
  obtain ⟨y, hy⟩ : ∃ y, y = W1.heap.size + 1 := ⟨_, rfl⟩
  rw [← hy] at ok2 ⊢
  obtain ⟨L2, hL2⟩ : ∃ L, L = (node33 mB bB y).cells.toArray := ⟨_, rfl⟩
  rw [← hL2]
  have H2 := Lib.hid (And.intro ok2 (And.intro (H1.out.1.below b2) (And.intro (below_tr H1.out.2.1 b2) hL2)))
  have z1 : L1.size = 47 := by rw [H1.out.2.2]; rfl
  have z2 : L2.size = 47 := by rw [hL2]; rfl
  clear ok2 b2 hy hL2 N2
  have P1 := Lib.hid (fun w1 => pod33_any ⟨#[120]⟩ nB w1 (wfs_small (by decide)) (wfs_small (by decide)))
  have P2 := Lib.hid (fun w1 => pod33_any ⟨#[121]⟩ nB w1 (wfs_small (by decide)) (wfs_small (by decide)))
  have P3 := Lib.hid (fun w1 => pod33_any ⟨#[122]⟩ mB w1 (wfs_small (by decide)) (wfs_small (by decide)))
  obtain ⟨M1, hM1⟩ : ∃ L, L = (pod33 ⟨#[120]⟩ nB).cells.toArray := ⟨_, rfl⟩
  obtain ⟨M2, hM2⟩ : ∃ L, L = (pod33 ⟨#[121]⟩ nB).cells.toArray := ⟨_, rfl⟩
  obtain ⟨M3, hM3⟩ : ∃ L, L = (pod33 ⟨#[122]⟩ mB).cells.toArray := ⟨_, rfl⟩
  rw [← hM1] at P1
  rw [← hM2] at P2
  rw [← hM3] at P3
  have y1 : M1.size = 47 := by rw [hM1]; rfl
  have y2 : M2.size = 47 := by rw [hM2]; rfl
  have y3 : M3.size = 47 := by rw [hM3]; rfl
  have HM := Lib.hid (And.intro hM1 (And.intro hM2 hM3))
  have S2 := Lib.hid (Sl.made (size := 47) W2 ([L1, L2].flatMap Array.toList).toArray 57 2 2 (Nat.le_refl _) (by simp [z1, z2]))
  have B3 := below_tr H2.out.2.2.1 (below_al W2 (.cells ([L1, L2].flatMap Array.toList).toArray 57))
  have B23 := below_al W2 (.cells ([L1, L2].flatMap Array.toList).toArray 57)
  obtain ⟨W3, hW3⟩ : ∃ W3, W3 = W2.alloc (.cells ([L1, L2].flatMap Array.toList).toArray 57) := ⟨_, rfl⟩
  have HW3 := Lib.hid hW3.symm
  rw [← hW3] at S2 B3 B23
  have H3 := Lib.hid (And.intro S2.out (And.intro B3 B23))
  clear hM1 hM2 hM3 B3 B23 S2 hW3
  go_wp2_with (first | (refine wpl_run33 rfl (run_buildO2 z1 z2 rfl rfl rfl _) ?_; rw [HW3.out]))
  refine (P1.out W3).mono ?_
  rintro e W4 ⟨rfl, b4⟩
  go_wp2_with fail
  refine (P2.out W4).mono ?_
  rintro e W5 ⟨rfl, b5⟩
  go_wp2_with fail
  refine (P3.out W5).mono ?_
  rintro e W6 ⟨rfl, b6⟩
  have b36 := below_tr (below_tr b4 b5) b6
  have S7 := Lib.hid (Sl.made (size := 47) W6 ([M1, M2, M3].flatMap Array.toList).toArray 57 3 3 (Nat.le_refl _) (by simp [y1, y2, y3]))
  have B67 := below_al W6 (.cells ([M1, M2, M3].flatMap Array.toList).toArray 57)
  obtain ⟨W7, hW7⟩ : ∃ W7, W7 = W6.alloc (.cells ([M1, M2, M3].flatMap Array.toList).toArray 57) := ⟨_, rfl⟩
  have HW7 := Lib.hid hW7.symm
  rw [← hW7] at S7 B67
  have b37 := below_tr b36 B67
  have H7 := Lib.hid (And.intro S7.out (And.intro b37 (below_tr H3.out.2.1 b37)))
  have hPk := pick_any zoneB 1 wB W7 (some ⟨W2.heap.size, 0, none⟩) 2 (lNodes x y) (by
      have h := H3.out.1.below b37
      rw [H1.out.2.2, H2.out.2.2.2] at h
      exact h) (lNodes_ok ((H2.out.2.1.below H3.out.2.2).below b37) ((H2.out.1.below H3.out.2.2).below b37)) (by
      show ([(2, nB), (2, mB)] : List (Int × ByteArray)).Nodup
      have := l_ne.1
      simp [this]) (by show 2 ≤ 1000; omega) (some ⟨W6.heap.size, 0, none⟩) 3 lPods (by
      have h := H7.out.1
      rw [HM.out.1, HM.out.2.1, HM.out.2.2] at h
      exact h) (lPods_ok W7) (by show 3 ≤ 1000; omega) (by decide) l_nmB 1 (by omega) (l_low x y)
  rw [l_chs] at hPk
  have HP := Lib.hid hPk
  clear hPk b4 b5 b6 b36 B67 b37 hW7 S7 P1 P2 P3
  go_wp2_with (first | (refine wpl_run33 rfl (run_buildO3 y1 y2 y3 rfl rfl rfl rfl _) ?_; rw [HW7.out]))
  refine HP.out.mono ?_
  rintro e W8 ⟨v, cl, rfl, hperm, hs, hS, b8⟩
  have hcl : cl = [(mB, 1)] := List.perm_singleton.1 hperm
  subst hcl
  obtain ⟨Av, cv, rfl, _⟩ := id hS
  obtain ⟨ad, rfl, hadl, hc⟩ := hS.cell1 (k := 0) (u := .string mB) rfl
  have hc0 : W8.cell? ad = some (.string mB) := by simpa [Addr.add] using hc
  have HB := Lib.hid (below_tr H7.out.2.2 b8)
  clear hS hc hperm hs b8
  unfold mB at hc0
  go_wp2_with fail
  go_ret
  exact ⟨rfl, HB.out⟩
end Go.Proofs.Ytkpklnalfomcbaa
end
section
namespace Go.Proofs.Ytkpklnalfomcbaa
open Go.RowKit Go.Proofs.Mem
set_option linter.unusedVariables false
theorem obs_of {w : World} {A : Option Addr} {n c m : Nat} (h : Mem.Ok Try.prog w (m + 7) 24 (Value.slice A n c).cells.toList) :
    ∃ xs : List Ob, xs.length = n ∧ n ≤ maxLen ∧ Sl w 47 (.slice A n c) n (xs.flatMap Ob.cells) ∧ ∀ x ∈ xs, x.Ok w := by
  have hco : Try.prog.cellsOf 57 = 47 := by kernel_rfl
  obtain ⟨v, m', xs, e1, hS, hm, hel⟩ := ok_slice Try.underlying24 h (by omega)
  rw [hco] at hS hel
  have e2 : v = .slice A n c := by simp [Value.cells] at e1; exact e1.symm
  subst e2
  obtain ⟨rfl, _, _, hl, _⟩ := hS.parts
  obtain ⟨l, h1, h2, h3⟩ := rows_of (s := 47) Ob.cells (fun x => x.Ok w) _ xs hl (fun i hi => by
    obtain ⟨o, e1, ho⟩ := obj_of (hel i hi)
    exact ⟨o, e1, ho⟩)
  exact ⟨l, h1, hm, by rw [← h2]; exact hS, h3⟩
end Go.Proofs.Ytkpklnalfomcbaa
end
