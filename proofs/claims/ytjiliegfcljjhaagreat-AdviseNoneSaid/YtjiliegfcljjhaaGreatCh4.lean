/-
  The contract of package chart's Put, as the statement ChartGrows uses it. Conditions: those named in each.
-/
import Derived.Test.YtjiliegfcljjhaaGreatCh3
import Derived.StillTailTactics
import Derived.BigQuiet
import Derived.Outline
namespace Go.Proofs.YtjiliegfcljjhaaGreat
open Go.RowKit Go.Proofs.Mem
set_option linter.unusedVariables false
set_option linter.unusedSimpArgs false
section
variable {w : World} {c F G M H : Nat} {ws : List Nat} {p : Int} {met : Bool}
theorem Ch.hd (h : Ch w c F G M H ws p met) : w.cell? ⟨c + 1, 3, none⟩ = some (.int .i64 H) ∧ w.cell? ⟨c + 1, 5, none⟩ = some (.slice (some ⟨c, 0, none⟩) M M) ∧ w.cell? ⟨c + 1, 6, none⟩ = some (.int .i64 p) ∧ w.cell? ⟨c + 1, 7, none⟩ = some (.bool met) ∧ w.frozen? ⟨c + 1, 6, none⟩ = false ∧ w.frozen? ⟨c + 1, 7, none⟩ = false := by
  obtain ⟨ev, h1, _⟩ := h
  exact ⟨h1.cell 3, h1.cell 5, h1.cell 6, h1.cell 7, h1.frozen 6, h1.frozen 7⟩
theorem Ch.wat (h : Ch w c F G M H ws p met) {i : Nat} (hi : i < M) : ∃ x, x ∈ ws ∧ w.cell? ⟨c, i, none⟩ = some (.int .u64 (x : Nat)) ∧ w.frozen? ⟨c, i, none⟩ = false := by
  obtain ⟨ev, h1, h2, h3, h4⟩ := h
  have d := h2.cell i
  rw [List.getElem?_toArray, List.getElem?_map, List.getElem?_eq_getElem (by omega)] at d
  exact ⟨_, List.getElem_mem (by omega), d, h2.frozen i⟩
end
theorem put_fin {w w3 : World} {c F G M H : Nat} {ws : List Nat} {q : Int} {met : Bool} (hC : Ch w3 c F G M H ws q met) (hB : Below c w w3) (hw : Hid (∀ x ∈ ws, x ≤ 144115188075855872)) (q0 : 0 ≤ q) (q1 : q ≤ 4611686018427387904) (i : Nat) (z : Int) (hz : 0 ≤ z) :
    PutIs c F G M H w (.returned (.int .i64 0)) (w3.setCell ⟨c, i, none⟩ (.int .u64 (min z 144115188075855872))).drew := by
  have e : min z 144115188075855872 = ((min z 144115188075855872).toNat : Int) := by omega
  have hy : (min z 144115188075855872).toNat ≤ 144115188075855872 := by omega
  rw [e]
  generalize (min z 144115188075855872).toNat = y at hy
  have hC2 := hC.setW i y
  refine ⟨0, ws.set i y, q, met, rfl, ?_, ?_, q0, q1, (hB.setCell (by simp) _).drew⟩
  · obtain ⟨ev, h1, h2, h3, h4⟩ := hC2
    exact ⟨ev, h1.drew, h2.drew, h3, h4⟩
  · intro x hx
    rcases List.mem_or_eq_of_mem_set hx with hx | rfl
    · exact hw.out x hx
    · exact hy
set_option maxHeartbeats 1000000 in
set_option maxRecDepth 100000 in
theorem put_first (w : World) (c F G M H : Nat) (ws : List Nat) (p : Int) (t m k : Int) (h : Ch w c F G M H ws p false) (hM : M ≤ 64) (hM0 : 1 ≤ M) (hH : 1 ≤ H) (hH2 : H ≤ 1800) (hw : ∀ x ∈ ws, x ≤ 144115188075855872) (hp : 0 ≤ p) (hp2 : p ≤ 4611686018427387904)
    (m0 : 0 ≤ m) (m1 : m ≤ 9007199254740992) (k0 : 1 ≤ k) (k1 : k ≤ 1000) (t0 : 0 ≤ t) (t1 : t ≤ 4611686018427387904) :
    Calls Tryz.prog 23 #[.pointer (some ⟨c + 1, 0, none⟩), .int .i64 t, .int .i64 m, .int .i64 k] w (PutIs c F G M H w) := by
  have HW := Lib.hid hw
  clear hw
  have q0 : 0 ≤ t / (H : Int) := Int.ediv_nonneg t0 (by omega)
  have q1 : t / (H : Int) ≤ 4611686018427387904 := Int.le_trans (Int.ediv_le_self _ t0) t1
  obtain ⟨c3, c5, c6, c7, f6, f7⟩ := h.hd
  have hH' : (1 : Int) ≤ H := by omega
  have hH2' : (H : Int) ≤ 1800 := by omega
  go_enter Tryz.func23, Tryz.ntmps23
  go_wp2_with (first
    | (go_at_call 39; refine (qright_t m _ m0 m1).mono ?_; rintro e w1 ⟨rfl, rfl⟩)
    | (go_at_call 40; refine (between_t k 1 1000 _ k0 k1).mono ?_; rintro e w1 ⟨rfl, rfl⟩))
  generalize t / (H : Int) = q at q0 q1 ⊢
  have hC := (h.setP q).setMet true
  have hBl : Below c w ((w.setCell ⟨c + 1, 6, none⟩ (.int .i64 q)).setCell ⟨c + 1, 7, none⟩ (.bool true)) := ((Below.refl _ _).setCell (by simp) _).setCell (by simp) _
  generalize (w.setCell ⟨c + 1, 6, none⟩ (.int .i64 q)).setCell ⟨c + 1, 7, none⟩ (.bool true) = w2 at hC hBl ⊢
  refine (bucket_any _ c F G M H ws q true m hC hM hM0 m0 m1).mono ?_
  rintro e w3 ⟨⟨i, rfl, hi, _⟩, hb3⟩
  have hC3 := hC.below hb3
  have hBl3 := hBl.trans (hb3.mono (by have := hC.lt; omega))
  clear hb3 hC hBl c3 c5 c6 c7 f6 f7 h
  have hl3 := hC3.lt
  obtain ⟨c3, c5, c6, c7, f6, f7⟩ := hC3.hd
  obtain ⟨x, hxm, d, fi⟩ := hC3.wat hi
  have hx := HW.out _ hxm
  clear hxm
  have hi' : (i : Int) < M := by omega
  go_wp2_with fail
  go_still_tail 26, (by kernel_rfl)
  change wpList _ _ _ _ _ w3.drew
  go_wp2_with fail
  go_ret
  exact put_fin hC3 hBl3 HW (by omega) (by omega) i _ (wrap_u64_nonneg _)
set_option maxHeartbeats 1000000 in
set_option maxRecDepth 100000 in
theorem put_rest (w : World) (c F G M H : Nat) (ws : List Nat) (p : Int) (t m k : Int) (h : Ch w c F G M H ws p true) (hM : M ≤ 64) (hM0 : 1 ≤ M) (hH : 1 ≤ H) (hH2 : H ≤ 1800) (hw : ∀ x ∈ ws, x ≤ 144115188075855872) (hp : 0 ≤ p) (hp2 : p ≤ 4611686018427387904)
    (m0 : 0 ≤ m) (m1 : m ≤ 9007199254740992) (k0 : 1 ≤ k) (k1 : k ≤ 1000) (t0 : 0 ≤ t) (t1 : t ≤ 4611686018427387904) (hq : p < t / (H : Int)) :
    Calls Tryz.prog 23 #[.pointer (some ⟨c + 1, 0, none⟩), .int .i64 t, .int .i64 m, .int .i64 k] w (PutIs c F G M H w) := by
  have HW := Lib.hid hw
  clear hw
  have q0 : 0 ≤ t / (H : Int) := Int.ediv_nonneg t0 (by omega)
  have q1 : t / (H : Int) ≤ 4611686018427387904 := Int.le_trans (Int.ediv_le_self _ t0) t1
  obtain ⟨c3, c5, c6, c7, f6, f7⟩ := h.hd
  have hH' : (1 : Int) ≤ H := by omega
  have hH2' : (H : Int) ≤ 1800 := by omega
  go_enter Tryz.func23, Tryz.ntmps23
  go_wp2_with (first
    | (go_at_call 39; refine (qright_t m _ m0 m1).mono ?_; rintro e w1 ⟨rfl, rfl⟩)
    | (go_at_call 40; refine (between_t k 1 1000 _ k0 k1).mono ?_; rintro e w1 ⟨rfl, rfl⟩))
  generalize t / (H : Int) = q at hq q0 q1 ⊢
  refine (rest_any w c F G M H ws p q true _ h hM HW.out (Nat.le_refl _) hp (by omega) q1).mono ?_
  rintro e w2 ⟨rfl, ws', hC, hw', hBl⟩
  have HW' := Lib.hid hw'
  clear hw'
  go_wp2_with fail
  refine (bucket_any _ c F G M H ws' q true m hC hM hM0 m0 m1).mono ?_
  rintro e w3 ⟨⟨i, rfl, hi, _⟩, hb3⟩
  have hC3 := hC.below hb3
  have hBl3 := hBl.trans (hb3.mono (by have := hC.lt; omega))
  clear hb3 hC hBl c3 c5 c6 c7 f6 f7 h
  have hl3 := hC3.lt
  obtain ⟨c3, c5, c6, c7, f6, f7⟩ := hC3.hd
  obtain ⟨x, hxm, d, fi⟩ := hC3.wat hi
  have hx := HW'.out _ hxm
  clear hxm
  have hi' : (i : Int) < M := by omega
  go_wp2_with fail
  go_still_tail 26, (by kernel_rfl)
  change wpList _ _ _ _ _ w3.drew
  go_wp2_with fail
  go_ret
  exact put_fin hC3 hBl3 HW' (by omega) (by omega) i _ (wrap_u64_nonneg _)
set_option maxHeartbeats 1000000 in
set_option maxRecDepth 100000 in
theorem put_stale (w : World) (c F G M H : Nat) (ws : List Nat) (p : Int) (t m k : Int) (h : Ch w c F G M H ws p true) (hM : M ≤ 64) (hM0 : 1 ≤ M) (hH : 1 ≤ H) (hH2 : H ≤ 1800) (hw : ∀ x ∈ ws, x ≤ 144115188075855872) (hp : 0 ≤ p) (hp2 : p ≤ 4611686018427387904)
    (m0 : 0 ≤ m) (m1 : m ≤ 9007199254740992) (k0 : 1 ≤ k) (k1 : k ≤ 1000) (t0 : 0 ≤ t) (t1 : t ≤ 4611686018427387904) (hq : t / (H : Int) ≤ p) (hq2 : 20 < p - t / (H : Int)) :
    Calls Tryz.prog 23 #[.pointer (some ⟨c + 1, 0, none⟩), .int .i64 t, .int .i64 m, .int .i64 k] w (PutIs c F G M H w) := by
  have HW := Lib.hid hw
  clear hw
  have q0 : 0 ≤ t / (H : Int) := Int.ediv_nonneg t0 (by omega)
  have q1 : t / (H : Int) ≤ 4611686018427387904 := Int.le_trans (Int.ediv_le_self _ t0) t1
  obtain ⟨c3, c5, c6, c7, f6, f7⟩ := h.hd
  have d1 : p - t / (H : Int) ≤ 4611686018427387904 := by omega
  have hH' : (1 : Int) ≤ H := by omega
  have hH2' : (H : Int) ≤ 1800 := by omega
  go_enter Tryz.func23, Tryz.ntmps23
  go_wp2_with (first
    | (go_at_call 39; refine (qright_t m _ m0 m1).mono ?_; rintro e w1 ⟨rfl, rfl⟩)
    | (go_at_call 40; refine (between_t k 1 1000 _ k0 k1).mono ?_; rintro e w1 ⟨rfl, rfl⟩))
  go_ret
  exact ⟨13, ws, p, true, rfl, h, HW.out, hp, hp2, Below.refl _ _⟩
set_option maxHeartbeats 1000000 in
set_option maxRecDepth 100000 in
theorem put_old (w : World) (c F G M H : Nat) (ws : List Nat) (p : Int) (t m k : Int) (h : Ch w c F G M H ws p true) (hM : M ≤ 64) (hM0 : 1 ≤ M) (hH : 1 ≤ H) (hH2 : H ≤ 1800) (hw : ∀ x ∈ ws, x ≤ 144115188075855872) (hp : 0 ≤ p) (hp2 : p ≤ 4611686018427387904)
    (m0 : 0 ≤ m) (m1 : m ≤ 9007199254740992) (k0 : 1 ≤ k) (k1 : k ≤ 1000) (t0 : 0 ≤ t) (t1 : t ≤ 4611686018427387904) (hq : t / (H : Int) ≤ p) (hq2 : p - t / (H : Int) ≤ 20) :
    Calls Tryz.prog 23 #[.pointer (some ⟨c + 1, 0, none⟩), .int .i64 t, .int .i64 m, .int .i64 k] w (PutIs c F G M H w) := by
  have HW := Lib.hid hw
  clear hw
  have q0 : 0 ≤ t / (H : Int) := Int.ediv_nonneg t0 (by omega)
  have q1 : t / (H : Int) ≤ 4611686018427387904 := Int.le_trans (Int.ediv_le_self _ t0) t1
  obtain ⟨c3, c5, c6, c7, f6, f7⟩ := h.hd
  have d0 : 0 ≤ p - t / (H : Int) := by omega
  have hH' : (1 : Int) ≤ H := by omega
  have hH2' : (H : Int) ≤ 1800 := by omega
  go_enter Tryz.func23, Tryz.ntmps23
  go_wp2_with (first
    | (go_at_call 39; refine (qright_t m _ m0 m1).mono ?_; rintro e w1 ⟨rfl, rfl⟩)
    | (go_at_call 40; refine (between_t k 1 1000 _ k0 k1).mono ?_; rintro e w1 ⟨rfl, rfl⟩))
  have hC := h
  have hBl := Below.refl c w
  generalize t / (H : Int) = q at hq hq2 d0 q0 q1 ⊢
  refine (bucket_any _ c F G M H ws p true m hC hM hM0 m0 m1).mono ?_
  rintro e w3 ⟨⟨i, rfl, hi, _⟩, hb3⟩
  have hC3 := hC.below hb3
  have hBl3 := hBl.trans (hb3.mono (by have := hC.lt; omega))
  clear hb3 hC hBl c3 c5 c6 c7 f6 f7 h
  have hl3 := hC3.lt
  obtain ⟨c3, c5, c6, c7, f6, f7⟩ := hC3.hd
  obtain ⟨x, hxm, d, fi⟩ := hC3.wat hi
  have hx := HW.out _ hxm
  clear hxm
  have hi' : (i : Int) < M := by omega
  go_wp2_with fail
  go_still_tail 26, (by kernel_rfl)
  change wpList _ _ _ _ _ w3.drew
  go_wp2_with fail
  go_ret
  exact put_fin hC3 hBl3 HW (by omega) (by omega) i _ (wrap_u64_nonneg _)
theorem put_any (w : World) (c F G M H : Nat) (ws : List Nat) (p : Int) (met : Bool) (t m k : Int) (h : Ch w c F G M H ws p met) (hM : M ≤ 64) (hM0 : 1 ≤ M) (hH : 1 ≤ H) (hH2 : H ≤ 1800) (hw : ∀ x ∈ ws, x ≤ 144115188075855872) (hp : 0 ≤ p) (hp2 : p ≤ 4611686018427387904) :
    Calls Tryz.prog 23 #[.pointer (some ⟨c + 1, 0, none⟩), .int .i64 t, .int .i64 m, .int .i64 k] w (PutIs c F G M H w) := by
  by_cases hm : 0 ≤ m ∧ m ≤ 9007199254740992
  · by_cases hk : 1 ≤ k ∧ k ≤ 1000
    · by_cases ht : 0 ≤ t ∧ t ≤ 4611686018427387904
      · cases met
        · exact put_first w c F G M H ws p t m k h hM hM0 hH hH2 hw hp hp2 hm.1 hm.2 hk.1 hk.2 ht.1 ht.2
        · rcases Int.lt_or_le p (t / (H : Int)) with hq | hq
          · exact put_rest w c F G M H ws p t m k h hM hM0 hH hH2 hw hp hp2 hm.1 hm.2 hk.1 hk.2 ht.1 ht.2 hq
          · rcases Int.lt_or_le 20 (p - t / (H : Int)) with h2 | h2
            · exact put_stale w c F G M H ws p t m k h hM hM0 hH hH2 hw hp hp2 hm.1 hm.2 hk.1 hk.2 ht.1 ht.2 hq h2
            · exact put_old w c F G M H ws p t m k h hM hM0 hH hH2 hw hp hp2 hm.1 hm.2 hk.1 hk.2 ht.1 ht.2 hq h2
      · exact put_bad w c F G M H ws p met t m k h hw hp hp2 (by omega)
    · exact put_bad w c F G M H ws p met t m k h hw hp hp2 (by omega)
  · exact put_bad w c F G M H ws p met t m k h hw hp hp2 (by omega)
end Go.Proofs.YtjiliegfcljjhaaGreat
