/-
  The walk of math/bits.Div64: it returns quotient and rest, for every number of 64 bits, where the quotient fits; nothing turns.
-/
import Derived.Test.YtjiliegfcljjhaaGreatShelf
import Derived.Test.YtjiliegfcljjhaaGreatMem
import Derived.Test.YtjiliegfcljjhaaGreatDiv
import Derived.RegionTactic
import Derived.Deep.QuietTactic
import Derived.BigQuiet
namespace Go.Proofs.YtjiliegfcljjhaaGreat
open Go.RowKit Go.Proofs.Mem
set_option linter.unusedVariables false
set_option linter.unusedSimpArgs false

theorem lz_any (y : Nat) (w : World) (h0 : 0 < y) (h1 : y < 18446744073709551616) :
    Calls Tryz.prog 116 #[.int .u64 y] w fun e w' => ∃ s : Nat, e = .returned (.int .i64 s) ∧ s ≤ 63 ∧ 9223372036854775808 ≤ y * 2 ^ s ∧ y * 2 ^ s < 18446744073709551616 ∧ w = w' := by
  refine (Tryz.bits_LeadingZeros64 y w (by omega) (by omega)).mono ?_
  rintro e w' ⟨rfl, rfl⟩
  rw [Int.toNat_natCast]
  obtain ⟨s, e, h⟩ := Dv.lz_spec y h0 h1
  exact ⟨s, by rw [e], h.1, h.2.1, h.2.2, rfl⟩

theorem quo_rule (U n : Nat) (h : 0 < n) (hU : U < 18446744073709551616) : IntKind.u64.wrap ((U : Int) / (n : Int)) = ((U / n : Nat) : Int) := by
  have e : ((U / n : Nat) : Int) = (U : Int) / (n : Int) := by push_cast; rfl
  rw [← e, IntKind.wrap_u64]
  have := Nat.div_le_self U n
  generalize U / n = q at *
  omega
theorem rem_rule (U n : Nat) (h : 0 < n) (hU : U < 18446744073709551616) : IntKind.u64.wrap ((U : Int) - IntKind.u64.wrap (((U / n : Nat) : Int) * (n : Int))) = ((U % n : Nat) : Int) := by
  have e := Nat.div_add_mod' U n
  have e2 : ((U / n * n : Nat) : Int) = ((U / n : Nat) : Int) * (n : Int) := by push_cast; rfl
  rw [IntKind.wrap_u64, IntKind.wrap_u64, ← e2]
  generalize U / n * n = p at *
  generalize U % n = r at *
  omega
theorem mul_rule (q n T : Nat) (h : T = q * n) (hq : q < 4294967296) (hn : n < 4294967296) : IntKind.u64.wrap ((q : Int) * (n : Int)) = (T : Int) := by
  have e : ((q * n : Nat) : Int) = (q : Int) * (n : Int) := by push_cast; rfl
  have : q * n ≤ 4294967295 * 4294967295 := Nat.mul_le_mul (by omega) (by omega)
  rw [IntKind.wrap_u64, ← e, h]
  generalize q * n = p at *
  omega
theorem low_rule (r u L : Nat) (hL : L = r * 4294967296 + u) (hr : r < 4294967296) (hu : u < 4294967296) : IntKind.u64.wrap (IntKind.u64.wrap (4294967296 * (r : Int)) + (u : Int)) = (L : Int) := by
  rw [IntKind.wrap_u64, IntKind.wrap_u64]; omega
/-- Quotient and rest. -/
def QuoRem (N y : Nat) (w : World) (e : Ending) (w' : World) : Prop := ∃ q r : Nat, e = .returned (.tuple #[.int .u64 q, .int .u64 r]) ∧ N = q * y + r ∧ r < y ∧ q < 18446744073709551616 ∧ w = w'
theorem quorem_end (a b Z s : Nat) : Ending.returned (.tuple #[.int .u64 ((a : Int) * 4294967296 + (b : Int)), .int .u64 ((Z : Int) / 2 ^ s)]) = Ending.returned (.tuple #[.int .u64 ((a * 4294967296 + b : Nat) : Int), .int .u64 ((Z / 2 ^ s : Nat) : Int)]) := by
  have e1 : ((a * 4294967296 + b : Nat) : Int) = (a : Int) * 4294967296 + (b : Int) := by omega
  have e2 : ((Z / 2 ^ s : Nat) : Int) = (Z : Int) / 2 ^ s := by push_cast; rfl
  rw [e1, e2]
set_option maxRecDepth 100000 in
set_option maxHeartbeats 4000000 in
theorem div64_any (hi lo y : Nat) (w : World) (hy : y < 18446744073709551616) (hl : lo < 18446744073709551616) (h : hi < y) (h0 : 0 < hi) :
    Calls Tryz.prog 101 #[.int .u64 hi, .int .u64 lo, .int .u64 y] w (QuoRem (hi * 18446744073709551616 + lo) y w) := by
  go_enter Tryz.func101, Tryz.ntmps101
  go_wp2_with fail
  refine (lz_any y w (by omega) hy).mono ?_
  rintro e w' ⟨s, rfl, hs, hs1, hs2, rfl⟩
  obtain ⟨Y, hY⟩ : ∃ Y, Y = y * 2 ^ s := ⟨_, rfl⟩
  obtain ⟨nm1, nm2, nm3⟩ := Dv.norm hi lo y s Y hY hs hl h
  obtain ⟨U, hU⟩ : ∃ U, U = hi * 2 ^ s + lo / 2 ^ (64 - s) := ⟨_, rfl⟩
  obtain ⟨V, hV⟩ : ∃ V, V = lo * 2 ^ s % 18446744073709551616 := ⟨_, rfl⟩
  rw [← hU, ← hV] at nm1
  rw [← hU] at nm2
  rw [← hY] at hs1 hs2
  have r1 : IntKind.u64.wrap ((y : Int) * 2 ^ s) = (Y : Int) := by
    have e : ((y * 2 ^ s : Nat) : Int) = (y : Int) * 2 ^ s := by push_cast; rfl
    rw [IntKind.wrap_u64, ← e, ← hY]; omega
  have r1' : ∀ X : Nat, hi * 2 ^ s = X → X < 18446744073709551616 → IntKind.u64.wrap ((hi : Int) * 2 ^ s) = (X : Int) := by
    intro X hX hlt
    have e : ((hi * 2 ^ s : Nat) : Int) = (hi : Int) * 2 ^ s := by push_cast; rfl
    rw [IntKind.wrap_u64, ← e, hX]; omega
  have r4 : bits .or .u64 (IntKind.u64.wrap ((hi : Int) * 2 ^ s)) ((lo : Int) / 2 ^ (64 - s)) = (U : Int) := by
    have e : ((lo / 2 ^ (64 - s) : Nat) : Int) = (lo : Int) / 2 ^ (64 - s) := by push_cast; rfl
    have k := Dv.or_shift hi (lo / 2 ^ (64 - s)) s nm3
    rw [← e]
    generalize lo / 2 ^ (64 - s) = T at *
    generalize hi * 2 ^ s = X at *
    rw [r1' X rfl (by omega), u64_or_nat _ _ (by omega) (by omega), k, hU]
  have r5 : IntKind.u64.wrap ((lo : Int) * 2 ^ s) = (V : Int) := by
    have e : ((lo * 2 ^ s : Nat) : Int) = (lo : Int) * 2 ^ s := by push_cast; rfl
    rw [IntKind.wrap_u64, ← e, hV]; rfl
  clear r1'
  obtain ⟨n1, hn1⟩ : ∃ n1, n1 = Y / 4294967296 := ⟨_, rfl⟩
  obtain ⟨n0, hn0⟩ : ∃ n0, n0 = Y % 4294967296 := ⟨_, rfl⟩
  obtain ⟨u1, hu1⟩ : ∃ u1, u1 = V / 4294967296 := ⟨_, rfl⟩
  obtain ⟨u0, hu0⟩ : ∃ u0, u0 = V % 4294967296 := ⟨_, rfl⟩
  have hVlt : V < 18446744073709551616 := by omega
  have r2 : (Y : Int) / 4294967296 = (n1 : Int) := by omega
  have r3 : bits .and .u64 (Y : Int) 4294967295 = (n0 : Int) := by rw [and_low32 _ (by omega) (by omega)]; omega
  have r6 : (V : Int) / 4294967296 = (u1 : Int) := by omega
  have r7 : bits .and .u64 (V : Int) 4294967295 = (u0 : Int) := by rw [and_low32 _ (by omega) (by omega)]; omega
  have p1 : 2147483648 ≤ n1 := by omega
  have p1' : n1 < 4294967296 := by omega
  have p0 : n0 < 4294967296 := by omega
  have q1 : u1 < 4294967296 := by omega
  have q0 : u0 < 4294967296 := by omega
  have hYn : Y = n1 * 4294967296 + n0 := by omega
  have hVn : V = u1 * 4294967296 + u0 := by omega
  have nm4 : (hi * 18446744073709551616 + lo) * 2 ^ s = (U * 4294967296 + u1) * 4294967296 + u0 := by rw [← nm1, hVn]; omega
  rw [hYn] at nm2
  have st := Dv.rel_start p1 p1' p0 q1 nm2
  have hUlt : U < 18446744073709551616 := by omega
  have r8 := quo_rule U n1 (by omega) hUlt
  have r9 := rem_rule U n1 (by omega) hUlt
  have b8 : U / n1 ≤ 4294967297 := st.2.2.2
  have b9 : U % n1 < 4294967296 := st.2.2.1
  generalize U / n1 = q at *
  generalize U % n1 = r at *
  clear hs1 hs2 hU hV hn1 hn0 hu1 hu0
  have H1 := Lib.hid hY
  have H2 := Lib.hid hYn
  have H3 := Lib.hid hVn
  have H4 := Lib.hid nm4
  have H5 := Lib.hid nm1
  have H6 := Lib.hid st
  clear hY hYn hVn nm4 nm1 st nm3
  go_wp2_with fail
  clear r1 r2 r3 r4 r5 r6 r7 r8 r9 b8 b9
  have N2 := Lib.hid nm2
  have P1 := Lib.hid p1
  have P1' := Lib.hid p1'
  have P0 := Lib.hid p0
  have Q1 := Lib.hid q1
  have Q0 := Lib.hid q0
  have HU := Lib.hid hUlt
  have HV := Lib.hid hVlt
  have HL := Lib.hid hl
  have HH := Lib.hid h
  have HY := Lib.hid hy
  have i1 : (n1 : Int) < 4294967296 := by omega
  have i2 : (u1 : Int) < 4294967296 := by omega
  clear nm2 p1 p1' p0 q1 q0 hUlt hVlt hl h hy
  go_loop [15, 16] (fun a b => ∃ q r : Nat, a = .int .u64 q ∧ b = .int .u64 r ∧ Dv.Rel U u1 n1 n0 q r) (fun a _ => (intOf a).toNat)
  case atStart => exact ⟨q, r, rfl, rfl, H6.out⟩
  case round =>
    clear H6
    obtain ⟨q, r, rfl, rfl, hr⟩ := hrel
    have b8 : (q : Int) ≤ 4294967297 := by have := hr.2.2.2; omega
    have b9 : (r : Int) < 4294967296 := by have := hr.2.2.1; omega
    have HS := Lib.hid (fun ht hb => Dv.rel_step hr N2.out Q1.out ht hb)
    have HB := Lib.hid (fun ht hb => Dv.rel_break hr N2.out Q1.out P0.out ht hb)
    have HE := Lib.hid (fun hq ht => Dv.rel_end hr hq ht)
    have HP := Lib.hid (fun ht => (Dv.rel_more hr N2.out Q1.out ht).1)
    clear hr
    by_cases hA0 : (4294967296 : Int) ≤ q
    · have hA : decide ((4294967296 : Int) ≤ (q : Int)) = true := by simpa using hA0
      have hq1 : (0 : Int) < q := by omega
      by_cases hC0 : (r : Int) + n1 < 4294967296
      · have hC : decide ((4294967296 : Int) ≤ (r : Int) + (n1 : Int)) = false := by simp; omega
        go_wp2_with fail
        go_round
        case rel => exact ⟨q - 1, r + n1, by go_num, by go_num, HS.out (.inl (by omega)) (by omega)⟩
        case measure => simp [intOf]; omega
      · have hC : decide ((4294967296 : Int) ≤ (r : Int) + (n1 : Int)) = true := by simp; omega
        have F := HB.out (.inl (by omega)) (by omega)
        obtain ⟨p, hp⟩ : ∃ p, p = q - 1 := ⟨_, rfl⟩
        have rq : (q : Int) - 1 = (p : Int) := by omega
        rw [← hp] at F
        clear hp
        have b10 : (p : Int) < 4294967296 := by have := F.2.2; omega
        obtain ⟨W, hW⟩ : ∃ W, W = U * 4294967296 + u1 - p * (n1 * 4294967296 + n0) := ⟨_, rfl⟩
        have w1 := Dv.rest_lt F
        rw [← hW] at w1
        have r10 := Dv.wrap_rest U u1 p Y W (by rw [H2.out]; exact hW) (by rw [H2.out]; exact F.1) (by have := P1'.out; have := P0.out; omega)
        have r11 := quo_rule W n1 (by have := P1.out; omega) (by have := P1'.out; have := P0.out; omega)
        have r12 := rem_rule W n1 (by have := P1.out; omega) (by have := P1'.out; have := P0.out; omega)
        have st := Dv.rel_start P1.out P1'.out P0.out Q0.out w1
        have z1 : (1 : Int) ≤ n1 := by have := P1.out; omega
        have z2 : (W : Int) ≤ 18446744073709551615 := by have := P1'.out; have := P0.out; omega
        generalize W / n1 = q2 at *
        generalize W % n1 = r2 at *
        have F1 := Lib.hid F
        have HW := Lib.hid hW
        have W1 := Lib.hid w1
        have ST := Lib.hid st
        clear F hW w1 st
        go_wp2_with fail
        clear r10 r11 r12 HS HB HE HP hA
        try clear t1
        try clear t2
        try clear hD
        try clear hC
        try clear rq
        try clear hq1
        clear b8 b9
        go_loop [18, 16] (fun a b => ∃ q r : Nat, a = .int .u64 q ∧ b = .int .u64 r ∧ Dv.Rel W u0 n1 n0 q r) (fun a _ => (intOf a).toNat)
        case atStart => exact ⟨q2, r2, rfl, rfl, ST.out⟩
        case round =>
          clear ST
          obtain ⟨qb, rb, rfl, rfl, hr⟩ := hrel
          have b8 : (qb : Int) ≤ 4294967297 := by have := hr.2.2.2; omega
          have b9 : (rb : Int) < 4294967296 := by have := hr.2.2.1; omega
          have HS := Lib.hid (fun ht hb => Dv.rel_step hr W1.out Q0.out ht hb)
          have HB := Lib.hid (fun ht hb => Dv.rel_break hr W1.out Q0.out P0.out ht hb)
          have HE := Lib.hid (fun hq ht => Dv.rel_end hr hq ht)
          have HP := Lib.hid (fun ht => (Dv.rel_more hr W1.out Q0.out ht).1)
          clear hr
          have i2 : (u0 : Int) < 4294967296 := by have := Q0.out; omega
          by_cases hA0 : (4294967296 : Int) ≤ qb
          · have hA : decide ((4294967296 : Int) ≤ (qb : Int)) = true := by simpa using hA0
            have hq1 : (0 : Int) < qb := by omega
            by_cases hC0 : (rb : Int) + n1 < 4294967296
            · have hC : decide ((4294967296 : Int) ≤ (rb : Int) + (n1 : Int)) = false := by simp; omega
              go_wp2_with fail
              go_round
              case rel => exact ⟨qb - 1, rb + n1, by go_num, by go_num, HS.out (.inl (by omega)) (by omega)⟩
              case measure => simp [intOf]; omega
            · have hC : decide ((4294967296 : Int) ≤ (rb : Int) + (n1 : Int)) = true := by simp; omega
              have F := HB.out (.inl (by omega)) (by omega)
              obtain ⟨pb, hp⟩ : ∃ pb, pb = qb - 1 := ⟨_, rfl⟩
              have rq : (qb : Int) - 1 = (pb : Int) := by omega
              rw [← hp] at F
              clear hp
              have b20 : (pb : Int) < 4294967296 := by have := F.2.2; omega
              have r20 := Dv.wrap_rest W u0 pb Y _ rfl (by rw [H2.out]; exact F.1) (by have := Dv.rest_lt F; rw [← H2.out] at this; have := P1'.out; have := P0.out; have := H2.out; omega)
              have fin := Dv.both (hi * 18446744073709551616 + lo) Y y s U u1 u0 n1 n0 p pb W H4.out H1.out H2.out F1.out (by rw [HW.out, H2.out]) F
              generalize W * 4294967296 + u0 - pb * Y = Z at r20 fin
              have F2 := Lib.hid fin
              clear F fin
              go_wp2_with fail
              go_ret2
              exact ⟨p * 4294967296 + pb, Z / 2 ^ s, quorem_end _ _ _ _, F2.out.1, F2.out.2, by omega, rfl⟩
          · have hA : decide ((4294967296 : Int) ≤ (qb : Int)) = false := by simpa using hA0
            obtain ⟨T, hT⟩ : ∃ T, T = qb * n0 := ⟨_, rfl⟩
            obtain ⟨L, hL⟩ : ∃ L, L = rb * 4294967296 + u0 := ⟨_, rfl⟩
            have t1 := mul_rule qb n0 T hT (by omega) P0.out
            have t2 : 4294967296 * (rb : Int) + (u0 : Int) = (L : Int) := by omega
            have HT := Lib.hid hT
            have HL := Lib.hid hL
            clear hT hL
            by_cases hD0 : L < T
            · have hD : decide (L < T) = true := by simpa using hD0
              have hq1 : (0 : Int) < qb := by have := HP.out (.inr (by rw [← HT.out, ← HL.out]; exact hD0)); omega
              by_cases hC0 : (rb : Int) + n1 < 4294967296
              · have hC : decide ((4294967296 : Int) ≤ (rb : Int) + (n1 : Int)) = false := by simp; omega
                go_wp2_with fail
                go_round
                case rel => exact ⟨qb - 1, rb + n1, by go_num, by go_num, HS.out (.inr (by rw [← HT.out, ← HL.out]; exact hD0)) (by omega)⟩
                case measure => simp [intOf]; omega
              · have hC : decide ((4294967296 : Int) ≤ (rb : Int) + (n1 : Int)) = true := by simp; omega
                have F := HB.out (.inr (by rw [← HT.out, ← HL.out]; exact hD0)) (by omega)
                obtain ⟨pb, hp⟩ : ∃ pb, pb = qb - 1 := ⟨_, rfl⟩
                have rq : (qb : Int) - 1 = (pb : Int) := by omega
                rw [← hp] at F
                clear hp
                have b20 : (pb : Int) < 4294967296 := by have := F.2.2; omega
                have r20 := Dv.wrap_rest W u0 pb Y _ rfl (by rw [H2.out]; exact F.1) (by have := Dv.rest_lt F; rw [← H2.out] at this; have := P1'.out; have := P0.out; have := H2.out; omega)
                have fin := Dv.both (hi * 18446744073709551616 + lo) Y y s U u1 u0 n1 n0 p pb W H4.out H1.out H2.out F1.out (by rw [HW.out, H2.out]) F
                generalize W * 4294967296 + u0 - pb * Y = Z at r20 fin
                have F2 := Lib.hid fin
                clear F fin
                go_wp2_with fail
                go_ret2
                exact ⟨p * 4294967296 + pb, Z / 2 ^ s, quorem_end _ _ _ _, F2.out.1, F2.out.2, by omega, rfl⟩
            · have hD : decide (L < T) = false := by simpa using hD0
              have F := HE.out (by omega) (by rw [← HT.out, ← HL.out]; omega)
              have b20 : (qb : Int) < 4294967296 := by have := F.2.2; omega
              have r20 := Dv.wrap_rest W u0 qb Y _ rfl (by rw [H2.out]; exact F.1) (by have := Dv.rest_lt F; rw [← H2.out] at this; have := P1'.out; have := P0.out; have := H2.out; omega)
              have fin := Dv.both (hi * 18446744073709551616 + lo) Y y s U u1 u0 n1 n0 p qb W H4.out H1.out H2.out F1.out (by rw [HW.out, H2.out]) F
              generalize W * 4294967296 + u0 - qb * Y = Z at r20 fin
              have F2 := Lib.hid fin
              clear F fin
              go_wp2_with fail
              go_ret2
              exact ⟨p * 4294967296 + qb, Z / 2 ^ s, quorem_end _ _ _ _, F2.out.1, F2.out.2, by omega, rfl⟩
    · have hA : decide ((4294967296 : Int) ≤ (q : Int)) = false := by simpa using hA0
      obtain ⟨T, hT⟩ : ∃ T, T = q * n0 := ⟨_, rfl⟩
      obtain ⟨L, hL⟩ : ∃ L, L = r * 4294967296 + u1 := ⟨_, rfl⟩
      have t1 := mul_rule q n0 T hT (by omega) P0.out
      have t2 : 4294967296 * (r : Int) + (u1 : Int) = (L : Int) := by omega
      have HT := Lib.hid hT
      have HL := Lib.hid hL
      clear hT hL
      by_cases hD0 : L < T
      · have hD : decide (L < T) = true := by simpa using hD0
        have hq1 : (0 : Int) < q := by have := HP.out (.inr (by rw [← HT.out, ← HL.out]; exact hD0)); omega
        by_cases hC0 : (r : Int) + n1 < 4294967296
        · have hC : decide ((4294967296 : Int) ≤ (r : Int) + (n1 : Int)) = false := by simp; omega
          go_wp2_with fail
          go_round
          case rel => exact ⟨q - 1, r + n1, by go_num, by go_num, HS.out (.inr (by rw [← HT.out, ← HL.out]; exact hD0)) (by omega)⟩
          case measure => simp [intOf]; omega
        · have hC : decide ((4294967296 : Int) ≤ (r : Int) + (n1 : Int)) = true := by simp; omega
          have F := HB.out (.inr (by rw [← HT.out, ← HL.out]; exact hD0)) (by omega)
          obtain ⟨p, hp⟩ : ∃ p, p = q - 1 := ⟨_, rfl⟩
          have rq : (q : Int) - 1 = (p : Int) := by omega
          rw [← hp] at F
          clear hp
          have b10 : (p : Int) < 4294967296 := by have := F.2.2; omega
          obtain ⟨W, hW⟩ : ∃ W, W = U * 4294967296 + u1 - p * (n1 * 4294967296 + n0) := ⟨_, rfl⟩
          have w1 := Dv.rest_lt F
          rw [← hW] at w1
          have r10 := Dv.wrap_rest U u1 p Y W (by rw [H2.out]; exact hW) (by rw [H2.out]; exact F.1) (by have := P1'.out; have := P0.out; omega)
          have r11 := quo_rule W n1 (by have := P1.out; omega) (by have := P1'.out; have := P0.out; omega)
          have r12 := rem_rule W n1 (by have := P1.out; omega) (by have := P1'.out; have := P0.out; omega)
          have st := Dv.rel_start P1.out P1'.out P0.out Q0.out w1
          have z1 : (1 : Int) ≤ n1 := by have := P1.out; omega
          have z2 : (W : Int) ≤ 18446744073709551615 := by have := P1'.out; have := P0.out; omega
          generalize W / n1 = q2 at *
          generalize W % n1 = r2 at *
          have F1 := Lib.hid F
          have HW := Lib.hid hW
          have W1 := Lib.hid w1
          have ST := Lib.hid st
          clear F hW w1 st
          go_wp2_with fail
          clear r10 r11 r12 HS HB HE HP hA
          try clear t1
          try clear t2
          try clear hD
          try clear hC
          try clear rq
          try clear hq1
          clear b8 b9
          go_loop [18, 16] (fun a b => ∃ q r : Nat, a = .int .u64 q ∧ b = .int .u64 r ∧ Dv.Rel W u0 n1 n0 q r) (fun a _ => (intOf a).toNat)
          case atStart => exact ⟨q2, r2, rfl, rfl, ST.out⟩
          case round =>
            clear ST
            obtain ⟨qb, rb, rfl, rfl, hr⟩ := hrel
            have b8 : (qb : Int) ≤ 4294967297 := by have := hr.2.2.2; omega
            have b9 : (rb : Int) < 4294967296 := by have := hr.2.2.1; omega
            have HS := Lib.hid (fun ht hb => Dv.rel_step hr W1.out Q0.out ht hb)
            have HB := Lib.hid (fun ht hb => Dv.rel_break hr W1.out Q0.out P0.out ht hb)
            have HE := Lib.hid (fun hq ht => Dv.rel_end hr hq ht)
            have HP := Lib.hid (fun ht => (Dv.rel_more hr W1.out Q0.out ht).1)
            clear hr
            have i2 : (u0 : Int) < 4294967296 := by have := Q0.out; omega
            by_cases hA0 : (4294967296 : Int) ≤ qb
            · have hA : decide ((4294967296 : Int) ≤ (qb : Int)) = true := by simpa using hA0
              have hq1 : (0 : Int) < qb := by omega
              by_cases hC0 : (rb : Int) + n1 < 4294967296
              · have hC : decide ((4294967296 : Int) ≤ (rb : Int) + (n1 : Int)) = false := by simp; omega
                go_wp2_with fail
                go_round
                case rel => exact ⟨qb - 1, rb + n1, by go_num, by go_num, HS.out (.inl (by omega)) (by omega)⟩
                case measure => simp [intOf]; omega
              · have hC : decide ((4294967296 : Int) ≤ (rb : Int) + (n1 : Int)) = true := by simp; omega
                have F := HB.out (.inl (by omega)) (by omega)
                obtain ⟨pb, hp⟩ : ∃ pb, pb = qb - 1 := ⟨_, rfl⟩
                have rq : (qb : Int) - 1 = (pb : Int) := by omega
                rw [← hp] at F
                clear hp
                have b20 : (pb : Int) < 4294967296 := by have := F.2.2; omega
                have r20 := Dv.wrap_rest W u0 pb Y _ rfl (by rw [H2.out]; exact F.1) (by have := Dv.rest_lt F; rw [← H2.out] at this; have := P1'.out; have := P0.out; have := H2.out; omega)
                have fin := Dv.both (hi * 18446744073709551616 + lo) Y y s U u1 u0 n1 n0 p pb W H4.out H1.out H2.out F1.out (by rw [HW.out, H2.out]) F
                generalize W * 4294967296 + u0 - pb * Y = Z at r20 fin
                have F2 := Lib.hid fin
                clear F fin
                go_wp2_with fail
                go_ret2
                exact ⟨p * 4294967296 + pb, Z / 2 ^ s, quorem_end _ _ _ _, F2.out.1, F2.out.2, by omega, rfl⟩
            · have hA : decide ((4294967296 : Int) ≤ (qb : Int)) = false := by simpa using hA0
              obtain ⟨T, hT⟩ : ∃ T, T = qb * n0 := ⟨_, rfl⟩
              obtain ⟨L, hL⟩ : ∃ L, L = rb * 4294967296 + u0 := ⟨_, rfl⟩
              have t1 := mul_rule qb n0 T hT (by omega) P0.out
              have t2 : 4294967296 * (rb : Int) + (u0 : Int) = (L : Int) := by omega
              have HT := Lib.hid hT
              have HL := Lib.hid hL
              clear hT hL
              by_cases hD0 : L < T
              · have hD : decide (L < T) = true := by simpa using hD0
                have hq1 : (0 : Int) < qb := by have := HP.out (.inr (by rw [← HT.out, ← HL.out]; exact hD0)); omega
                by_cases hC0 : (rb : Int) + n1 < 4294967296
                · have hC : decide ((4294967296 : Int) ≤ (rb : Int) + (n1 : Int)) = false := by simp; omega
                  go_wp2_with fail
                  go_round
                  case rel => exact ⟨qb - 1, rb + n1, by go_num, by go_num, HS.out (.inr (by rw [← HT.out, ← HL.out]; exact hD0)) (by omega)⟩
                  case measure => simp [intOf]; omega
                · have hC : decide ((4294967296 : Int) ≤ (rb : Int) + (n1 : Int)) = true := by simp; omega
                  have F := HB.out (.inr (by rw [← HT.out, ← HL.out]; exact hD0)) (by omega)
                  obtain ⟨pb, hp⟩ : ∃ pb, pb = qb - 1 := ⟨_, rfl⟩
                  have rq : (qb : Int) - 1 = (pb : Int) := by omega
                  rw [← hp] at F
                  clear hp
                  have b20 : (pb : Int) < 4294967296 := by have := F.2.2; omega
                  have r20 := Dv.wrap_rest W u0 pb Y _ rfl (by rw [H2.out]; exact F.1) (by have := Dv.rest_lt F; rw [← H2.out] at this; have := P1'.out; have := P0.out; have := H2.out; omega)
                  have fin := Dv.both (hi * 18446744073709551616 + lo) Y y s U u1 u0 n1 n0 p pb W H4.out H1.out H2.out F1.out (by rw [HW.out, H2.out]) F
                  generalize W * 4294967296 + u0 - pb * Y = Z at r20 fin
                  have F2 := Lib.hid fin
                  clear F fin
                  go_wp2_with fail
                  go_ret2
                  exact ⟨p * 4294967296 + pb, Z / 2 ^ s, quorem_end _ _ _ _, F2.out.1, F2.out.2, by omega, rfl⟩
              · have hD : decide (L < T) = false := by simpa using hD0
                have F := HE.out (by omega) (by rw [← HT.out, ← HL.out]; omega)
                have b20 : (qb : Int) < 4294967296 := by have := F.2.2; omega
                have r20 := Dv.wrap_rest W u0 qb Y _ rfl (by rw [H2.out]; exact F.1) (by have := Dv.rest_lt F; rw [← H2.out] at this; have := P1'.out; have := P0.out; have := H2.out; omega)
                have fin := Dv.both (hi * 18446744073709551616 + lo) Y y s U u1 u0 n1 n0 p qb W H4.out H1.out H2.out F1.out (by rw [HW.out, H2.out]) F
                generalize W * 4294967296 + u0 - qb * Y = Z at r20 fin
                have F2 := Lib.hid fin
                clear F fin
                go_wp2_with fail
                go_ret2
                exact ⟨p * 4294967296 + qb, Z / 2 ^ s, quorem_end _ _ _ _, F2.out.1, F2.out.2, by omega, rfl⟩
      · have hD : decide (L < T) = false := by simpa using hD0
        have F := HE.out (by omega) (by rw [← HT.out, ← HL.out]; omega)
        have b10 : (q : Int) < 4294967296 := by have := F.2.2; omega
        obtain ⟨W, hW⟩ : ∃ W, W = U * 4294967296 + u1 - q * (n1 * 4294967296 + n0) := ⟨_, rfl⟩
        have w1 := Dv.rest_lt F
        rw [← hW] at w1
        have r10 := Dv.wrap_rest U u1 q Y W (by rw [H2.out]; exact hW) (by rw [H2.out]; exact F.1) (by have := P1'.out; have := P0.out; omega)
        have r11 := quo_rule W n1 (by have := P1.out; omega) (by have := P1'.out; have := P0.out; omega)
        have r12 := rem_rule W n1 (by have := P1.out; omega) (by have := P1'.out; have := P0.out; omega)
        have st := Dv.rel_start P1.out P1'.out P0.out Q0.out w1
        have z1 : (1 : Int) ≤ n1 := by have := P1.out; omega
        have z2 : (W : Int) ≤ 18446744073709551615 := by have := P1'.out; have := P0.out; omega
        generalize W / n1 = q2 at *
        generalize W % n1 = r2 at *
        have F1 := Lib.hid F
        have HW := Lib.hid hW
        have W1 := Lib.hid w1
        have ST := Lib.hid st
        clear F hW w1 st
        go_wp2_with fail
        clear r10 r11 r12 HS HB HE HP hA
        try clear t1
        try clear t2
        try clear hD
        try clear hC
        try clear rq
        try clear hq1
        clear b8 b9
        go_loop [18, 16] (fun a b => ∃ q r : Nat, a = .int .u64 q ∧ b = .int .u64 r ∧ Dv.Rel W u0 n1 n0 q r) (fun a _ => (intOf a).toNat)
        case atStart => exact ⟨q2, r2, rfl, rfl, ST.out⟩
        case round =>
          clear ST
          obtain ⟨qb, rb, rfl, rfl, hr⟩ := hrel
          have b8 : (qb : Int) ≤ 4294967297 := by have := hr.2.2.2; omega
          have b9 : (rb : Int) < 4294967296 := by have := hr.2.2.1; omega
          have HS := Lib.hid (fun ht hb => Dv.rel_step hr W1.out Q0.out ht hb)
          have HB := Lib.hid (fun ht hb => Dv.rel_break hr W1.out Q0.out P0.out ht hb)
          have HE := Lib.hid (fun hq ht => Dv.rel_end hr hq ht)
          have HP := Lib.hid (fun ht => (Dv.rel_more hr W1.out Q0.out ht).1)
          clear hr
          have i2 : (u0 : Int) < 4294967296 := by have := Q0.out; omega
          by_cases hA0 : (4294967296 : Int) ≤ qb
          · have hA : decide ((4294967296 : Int) ≤ (qb : Int)) = true := by simpa using hA0
            have hq1 : (0 : Int) < qb := by omega
            by_cases hC0 : (rb : Int) + n1 < 4294967296
            · have hC : decide ((4294967296 : Int) ≤ (rb : Int) + (n1 : Int)) = false := by simp; omega
              go_wp2_with fail
              go_round
              case rel => exact ⟨qb - 1, rb + n1, by go_num, by go_num, HS.out (.inl (by omega)) (by omega)⟩
              case measure => simp [intOf]; omega
            · have hC : decide ((4294967296 : Int) ≤ (rb : Int) + (n1 : Int)) = true := by simp; omega
              have F := HB.out (.inl (by omega)) (by omega)
              obtain ⟨pb, hp⟩ : ∃ pb, pb = qb - 1 := ⟨_, rfl⟩
              have rq : (qb : Int) - 1 = (pb : Int) := by omega
              rw [← hp] at F
              clear hp
              have b20 : (pb : Int) < 4294967296 := by have := F.2.2; omega
              have r20 := Dv.wrap_rest W u0 pb Y _ rfl (by rw [H2.out]; exact F.1) (by have := Dv.rest_lt F; rw [← H2.out] at this; have := P1'.out; have := P0.out; have := H2.out; omega)
              have fin := Dv.both (hi * 18446744073709551616 + lo) Y y s U u1 u0 n1 n0 q pb W H4.out H1.out H2.out F1.out (by rw [HW.out, H2.out]) F
              generalize W * 4294967296 + u0 - pb * Y = Z at r20 fin
              have F2 := Lib.hid fin
              clear F fin
              go_wp2_with fail
              go_ret2
              exact ⟨q * 4294967296 + pb, Z / 2 ^ s, quorem_end _ _ _ _, F2.out.1, F2.out.2, by omega, rfl⟩
          · have hA : decide ((4294967296 : Int) ≤ (qb : Int)) = false := by simpa using hA0
            obtain ⟨T, hT⟩ : ∃ T, T = qb * n0 := ⟨_, rfl⟩
            obtain ⟨L, hL⟩ : ∃ L, L = rb * 4294967296 + u0 := ⟨_, rfl⟩
            have t1 := mul_rule qb n0 T hT (by omega) P0.out
            have t2 : 4294967296 * (rb : Int) + (u0 : Int) = (L : Int) := by omega
            have HT := Lib.hid hT
            have HL := Lib.hid hL
            clear hT hL
            by_cases hD0 : L < T
            · have hD : decide (L < T) = true := by simpa using hD0
              have hq1 : (0 : Int) < qb := by have := HP.out (.inr (by rw [← HT.out, ← HL.out]; exact hD0)); omega
              by_cases hC0 : (rb : Int) + n1 < 4294967296
              · have hC : decide ((4294967296 : Int) ≤ (rb : Int) + (n1 : Int)) = false := by simp; omega
                go_wp2_with fail
                go_round
                case rel => exact ⟨qb - 1, rb + n1, by go_num, by go_num, HS.out (.inr (by rw [← HT.out, ← HL.out]; exact hD0)) (by omega)⟩
                case measure => simp [intOf]; omega
              · have hC : decide ((4294967296 : Int) ≤ (rb : Int) + (n1 : Int)) = true := by simp; omega
                have F := HB.out (.inr (by rw [← HT.out, ← HL.out]; exact hD0)) (by omega)
                obtain ⟨pb, hp⟩ : ∃ pb, pb = qb - 1 := ⟨_, rfl⟩
                have rq : (qb : Int) - 1 = (pb : Int) := by omega
                rw [← hp] at F
                clear hp
                have b20 : (pb : Int) < 4294967296 := by have := F.2.2; omega
                have r20 := Dv.wrap_rest W u0 pb Y _ rfl (by rw [H2.out]; exact F.1) (by have := Dv.rest_lt F; rw [← H2.out] at this; have := P1'.out; have := P0.out; have := H2.out; omega)
                have fin := Dv.both (hi * 18446744073709551616 + lo) Y y s U u1 u0 n1 n0 q pb W H4.out H1.out H2.out F1.out (by rw [HW.out, H2.out]) F
                generalize W * 4294967296 + u0 - pb * Y = Z at r20 fin
                have F2 := Lib.hid fin
                clear F fin
                go_wp2_with fail
                go_ret2
                exact ⟨q * 4294967296 + pb, Z / 2 ^ s, quorem_end _ _ _ _, F2.out.1, F2.out.2, by omega, rfl⟩
            · have hD : decide (L < T) = false := by simpa using hD0
              have F := HE.out (by omega) (by rw [← HT.out, ← HL.out]; omega)
              have b20 : (qb : Int) < 4294967296 := by have := F.2.2; omega
              have r20 := Dv.wrap_rest W u0 qb Y _ rfl (by rw [H2.out]; exact F.1) (by have := Dv.rest_lt F; rw [← H2.out] at this; have := P1'.out; have := P0.out; have := H2.out; omega)
              have fin := Dv.both (hi * 18446744073709551616 + lo) Y y s U u1 u0 n1 n0 q qb W H4.out H1.out H2.out F1.out (by rw [HW.out, H2.out]) F
              generalize W * 4294967296 + u0 - qb * Y = Z at r20 fin
              have F2 := Lib.hid fin
              clear F fin
              go_wp2_with fail
              go_ret2
              exact ⟨q * 4294967296 + qb, Z / 2 ^ s, quorem_end _ _ _ _, F2.out.1, F2.out.2, by omega, rfl⟩
end Go.Proofs.YtjiliegfcljjhaaGreat
