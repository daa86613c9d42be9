/-
  The walk of math/bits.Div64: it returns quotient and rest, for every number of 64 bits, where the quotient fits; nothing turns.; The walks of package wide and of the functions of math/bits and cmp below it: each returns what exact arithmetic says, for every number of 64 bits; nothing that was there turns.; The walks of the four laws on wide numbers (package trimtablaw01): each returns true, for every input; nothing that was there turns.; The walks of package ratio, of its reference (trimtabref03) and of the small functions below: each returns what exact arithmetic says; nothing that was there turns.; The walks of package budget's Check, Must, Room, and of the statement BudgetRooms of package trimtablaw32: it returns true, for every input; nothing that was there turns.; How many of a kind, in the order of their names, are of such; BudgetMay, plain words: which pods may go, one behind the other; what a copy of the store has of pods behind those that went; BudgetMay: how many pods of an owner are ready: the walks of budget.ready and of the law's ready.; BudgetMay: the walk of sched.Evict, of any store.; BudgetMay: the walk of budget.May, of a budget that may be.; BudgetMay: what May's loop keeps, and what a name that goes turns.; BudgetMay: the walk of budget.May, of a budget that may be.; BudgetMay: budget.May where there is no store, or the budget may not be; what the law's loop by hand tells of who may go (plain).; BudgetMay: the law's walk.; BudgetKeeps: a store whose objects' rows stay clear of further blocks (another store's): Update and Evict keep it so.; BudgetKeeps: the keeper's New, Set, Remove and Len; Evict at a time that may not be.
-/
import Derived.Test.YtcbnmoghjhljbaaGreatShelf
import Derived.Test.YtcbnmoghjhljbaaGreatCBKps1
import Derived.Test.YtcbnmoghjhljbaaGreatCBKps6
import Derived.RegionTactic
import Derived.Deep.QuietTactic
import Derived.BigQuiet
import Derived.Deep.RegionHeld3
import Derived.Laws.Externs
import Derived.OpenShut
import Derived.Test.YtcbnmoghjhljbaaGreatCBKps8
import Derived.Test.YtcbnmoghjhljbaaGreatCBKps7
import Derived.Test.YtcbnmoghjhljbaaGreatCBKps4
import Derived.StringKeys
import Derived.Test.YtcbnmoghjhljbaaGreatCBKps3
section
namespace Go.Proofs.YtcbnmoghjhljbaaGreat
open Go.RowKit Go.Proofs.Mem
set_option linter.unusedVariables false
set_option linter.unusedSimpArgs false

theorem lz_any (y : Nat) (w : World) (h0 : 0 < y) (h1 : y < 18446744073709551616) :
    Calls Tryz.prog 134 #[.int .u64 y] w fun e w' => ∃ s : Nat, e = .returned (.int .i64 s) ∧ s ≤ 63 ∧ 9223372036854775808 ≤ y * 2 ^ s ∧ y * 2 ^ s < 18446744073709551616 ∧ w = w' := by
  refine (Tryz.bits_LeadingZeros64 y w (by omega) (by omega)).mono ?_
  rintro e w' ⟨rfl, rfl⟩
  rw [Int.toNat_natCast]
  obtain ⟨s, e, h⟩ := Dv.lz_spec y h0 h1
  exact ⟨s, by rw [e], h.1, h.2.1, h.2.2, rfl⟩

theorem quo_rule (U n : Nat) (h : 0 < n) (hU : U < 18446744073709551616) : IntKind.u64.wrap ((U : Int) / (n : Int)) = ((U / n : Nat) : Int) := by
  have e : ((U / n : Nat) : Int) = (U : Int) / (n : Int) := by push_cast; rfl
  rw [← e, IntKind.wrap_u64]
  have := Nat.div_le_self U n
  generalize U / n = q at *
  omega
theorem rem_rule (U n : Nat) (h : 0 < n) (hU : U < 18446744073709551616) : IntKind.u64.wrap ((U : Int) - IntKind.u64.wrap (((U / n : Nat) : Int) * (n : Int))) = ((U % n : Nat) : Int) := by
  have e := Nat.div_add_mod' U n
  have e2 : ((U / n * n : Nat) : Int) = ((U / n : Nat) : Int) * (n : Int) := by push_cast; rfl
  rw [IntKind.wrap_u64, IntKind.wrap_u64, ← e2]
  generalize U / n * n = p at *
  generalize U % n = r at *
  omega
theorem mul_rule (q n T : Nat) (h : T = q * n) (hq : q < 4294967296) (hn : n < 4294967296) : IntKind.u64.wrap ((q : Int) * (n : Int)) = (T : Int) := by
  have e : ((q * n : Nat) : Int) = (q : Int) * (n : Int) := by push_cast; rfl
  have : q * n ≤ 4294967295 * 4294967295 := Nat.mul_le_mul (by omega) (by omega)
  rw [IntKind.wrap_u64, ← e, h]
  generalize q * n = p at *
  omega
def QuoRem (N y : Nat) (w : World) (e : Ending) (w' : World) : Prop := ∃ q r : Nat, e = .returned (.tuple #[.int .u64 q, .int .u64 r]) ∧ N = q * y + r ∧ r < y ∧ q < 18446744073709551616 ∧ w = w'
theorem quorem_end (a b Z s : Nat) : Ending.returned (.tuple #[.int .u64 ((a : Int) * 4294967296 + (b : Int)), .int .u64 ((Z : Int) / 2 ^ s)]) = Ending.returned (.tuple #[.int .u64 ((a * 4294967296 + b : Nat) : Int), .int .u64 ((Z / 2 ^ s : Nat) : Int)]) := by
  have e1 : ((a * 4294967296 + b : Nat) : Int) = (a : Int) * 4294967296 + (b : Int) := by omega
  have e2 : ((Z / 2 ^ s : Nat) : Int) = (Z : Int) / 2 ^ s := by push_cast; rfl
  rw [e1, e2]
set_option maxRecDepth 100000 in
set_option maxHeartbeats 4000000 in
theorem div64_any (hi lo y : Nat) (w : World) (hy : y < 18446744073709551616) (hl : lo < 18446744073709551616) (h : hi < y) (h0 : 0 < hi) :
    Calls Tryz.prog 129 #[.int .u64 hi, .int .u64 lo, .int .u64 y] w (QuoRem (hi * 18446744073709551616 + lo) y w) := by
  go_enter Tryz.func129, Tryz.ntmps129
  go_wp2_with fail
  refine (lz_any y w (by omega) hy).mono ?_
  rintro e w' ⟨s, rfl, hs, hs1, hs2, rfl⟩
  obtain ⟨Y, hY⟩ : ∃ Y, Y = y * 2 ^ s := ⟨_, rfl⟩
  obtain ⟨nm1, nm2, nm3⟩ := Dv.norm hi lo y s Y hY hs hl h
  obtain ⟨U, hU⟩ : ∃ U, U = hi * 2 ^ s + lo / 2 ^ (64 - s) := ⟨_, rfl⟩
  obtain ⟨V, hV⟩ : ∃ V, V = lo * 2 ^ s % 18446744073709551616 := ⟨_, rfl⟩
  rw [← hU, ← hV] at nm1
  rw [← hU] at nm2
  rw [← hY] at hs1 hs2
  have r1 : IntKind.u64.wrap ((y : Int) * 2 ^ s) = (Y : Int) := by
    have e : ((y * 2 ^ s : Nat) : Int) = (y : Int) * 2 ^ s := by push_cast; rfl
    rw [IntKind.wrap_u64, ← e, ← hY]; omega
  have r1' : ∀ X : Nat, hi * 2 ^ s = X → X < 18446744073709551616 → IntKind.u64.wrap ((hi : Int) * 2 ^ s) = (X : Int) := by
    intro X hX hlt
    have e : ((hi * 2 ^ s : Nat) : Int) = (hi : Int) * 2 ^ s := by push_cast; rfl
    rw [IntKind.wrap_u64, ← e, hX]; omega
  have r4 : bits .or .u64 (IntKind.u64.wrap ((hi : Int) * 2 ^ s)) ((lo : Int) / 2 ^ (64 - s)) = (U : Int) := by
    have e : ((lo / 2 ^ (64 - s) : Nat) : Int) = (lo : Int) / 2 ^ (64 - s) := by push_cast; rfl
    have k := Dv.or_shift hi (lo / 2 ^ (64 - s)) s nm3
    rw [← e]
    generalize lo / 2 ^ (64 - s) = T at *
    generalize hi * 2 ^ s = X at *
    rw [r1' X rfl (by omega), u64_or_nat _ _ (by omega) (by omega), k, hU]
  have r5 : IntKind.u64.wrap ((lo : Int) * 2 ^ s) = (V : Int) := by
    have e : ((lo * 2 ^ s : Nat) : Int) = (lo : Int) * 2 ^ s := by push_cast; rfl
    rw [IntKind.wrap_u64, ← e, hV]; rfl
  clear r1'
  obtain ⟨n1, hn1⟩ : ∃ n1, n1 = Y / 4294967296 := ⟨_, rfl⟩
  obtain ⟨n0, hn0⟩ : ∃ n0, n0 = Y % 4294967296 := ⟨_, rfl⟩
  obtain ⟨u1, hu1⟩ : ∃ u1, u1 = V / 4294967296 := ⟨_, rfl⟩
  obtain ⟨u0, hu0⟩ : ∃ u0, u0 = V % 4294967296 := ⟨_, rfl⟩
  have hVlt : V < 18446744073709551616 := by omega
  have r2 : (Y : Int) / 4294967296 = (n1 : Int) := by omega
  have r3 : bits .and .u64 (Y : Int) 4294967295 = (n0 : Int) := by rw [and_low32 _ (by omega) (by omega)]; omega
  have r6 : (V : Int) / 4294967296 = (u1 : Int) := by omega
  have r7 : bits .and .u64 (V : Int) 4294967295 = (u0 : Int) := by rw [and_low32 _ (by omega) (by omega)]; omega
  have p1 : 2147483648 ≤ n1 := by omega
  have p1' : n1 < 4294967296 := by omega
  have p0 : n0 < 4294967296 := by omega
  have q1 : u1 < 4294967296 := by omega
  have q0 : u0 < 4294967296 := by omega
  have hYn : Y = n1 * 4294967296 + n0 := by omega
  have hVn : V = u1 * 4294967296 + u0 := by omega
  have nm4 : (hi * 18446744073709551616 + lo) * 2 ^ s = (U * 4294967296 + u1) * 4294967296 + u0 := by rw [← nm1, hVn]; omega
  rw [hYn] at nm2
  have st := Dv.rel_start p1 p1' p0 q1 nm2
  have hUlt : U < 18446744073709551616 := by omega
  have r8 := quo_rule U n1 (by omega) hUlt
  have r9 := rem_rule U n1 (by omega) hUlt
  have b8 : U / n1 ≤ 4294967297 := st.2.2.2
  have b9 : U % n1 < 4294967296 := st.2.2.1
  generalize U / n1 = q at *
  generalize U % n1 = r at *
  clear hs1 hs2 hU hV hn1 hn0 hu1 hu0
  have H1 := Lib.hid hY
  have H2 := Lib.hid hYn
  have H3 := Lib.hid hVn
  have H4 := Lib.hid nm4
  have H5 := Lib.hid nm1
  have H6 := Lib.hid st
  clear hY hYn hVn nm4 nm1 st nm3
  go_wp2_with fail
  clear r1 r2 r3 r4 r5 r6 r7 r8 r9 b8 b9
  have N2 := Lib.hid nm2
  have P1 := Lib.hid p1
  have P1' := Lib.hid p1'
  have P0 := Lib.hid p0
  have Q1 := Lib.hid q1
  have Q0 := Lib.hid q0
  have HU := Lib.hid hUlt
  have HV := Lib.hid hVlt
  have HL := Lib.hid hl
  have HH := Lib.hid h
  have HY := Lib.hid hy
  have i1 : (n1 : Int) < 4294967296 := by omega
  have i2 : (u1 : Int) < 4294967296 := by omega
  clear nm2 p1 p1' p0 q1 q0 hUlt hVlt hl h hy
  go_loop [15, 16] (fun a b => ∃ q r : Nat, a = .int .u64 q ∧ b = .int .u64 r ∧ Dv.Rel U u1 n1 n0 q r) (fun a _ => (intOf a).toNat)
  case atStart => exact ⟨q, r, rfl, rfl, H6.out⟩
  case round =>
    clear H6
    obtain ⟨q, r, rfl, rfl, hr⟩ := hrel
    have b8 : (q : Int) ≤ 4294967297 := by have := hr.2.2.2; omega
    have b9 : (r : Int) < 4294967296 := by have := hr.2.2.1; omega
    have HS := Lib.hid (fun ht hb => Dv.rel_step hr N2.out Q1.out ht hb)
    have HB := Lib.hid (fun ht hb => Dv.rel_break hr N2.out Q1.out P0.out ht hb)
    have HE := Lib.hid (fun hq ht => Dv.rel_end hr hq ht)
    have HP := Lib.hid (fun ht => (Dv.rel_more hr N2.out Q1.out ht).1)
    clear hr
    by_cases hA0 : (4294967296 : Int) ≤ q
    · have hA : decide ((4294967296 : Int) ≤ (q : Int)) = true := by simpa using hA0
      have hq1 : (0 : Int) < q := by omega
      by_cases hC0 : (r : Int) + n1 < 4294967296
      · have hC : decide ((4294967296 : Int) ≤ (r : Int) + (n1 : Int)) = false := by simp; omega
        go_wp2_with fail
        go_round
        case rel => exact ⟨q - 1, r + n1, by go_num, by go_num, HS.out (.inl (by omega)) (by omega)⟩
        case measure => simp [intOf]; omega
      · have hC : decide ((4294967296 : Int) ≤ (r : Int) + (n1 : Int)) = true := by simp; omega
        have F := HB.out (.inl (by omega)) (by omega)
        obtain ⟨p, hp⟩ : ∃ p, p = q - 1 := ⟨_, rfl⟩
        have rq : (q : Int) - 1 = (p : Int) := by omega
        rw [← hp] at F
        clear hp
        have b10 : (p : Int) < 4294967296 := by have := F.2.2; omega
        obtain ⟨W, hW⟩ : ∃ W, W = U * 4294967296 + u1 - p * (n1 * 4294967296 + n0) := ⟨_, rfl⟩
        have w1 := Dv.rest_lt F
        rw [← hW] at w1
        have r10 := Dv.wrap_rest U u1 p Y W (by rw [H2.out]; exact hW) (by rw [H2.out]; exact F.1) (by have := P1'.out; have := P0.out; omega)
        have r11 := quo_rule W n1 (by have := P1.out; omega) (by have := P1'.out; have := P0.out; omega)
        have r12 := rem_rule W n1 (by have := P1.out; omega) (by have := P1'.out; have := P0.out; omega)
        have st := Dv.rel_start P1.out P1'.out P0.out Q0.out w1
        have z1 : (1 : Int) ≤ n1 := by have := P1.out; omega
        have z2 : (W : Int) ≤ 18446744073709551615 := by have := P1'.out; have := P0.out; omega
        generalize W / n1 = q2 at *
        generalize W % n1 = r2 at *
        have F1 := Lib.hid F
        have HW := Lib.hid hW
        have W1 := Lib.hid w1
        have ST := Lib.hid st
        clear F hW w1 st
        go_wp2_with fail
        clear r10 r11 r12 HS HB HE HP hA
        try clear t1
        try clear t2
        try clear hD
        try clear hC
        try clear rq
        try clear hq1
        clear b8 b9
        go_loop [18, 16] (fun a b => ∃ q r : Nat, a = .int .u64 q ∧ b = .int .u64 r ∧ Dv.Rel W u0 n1 n0 q r) (fun a _ => (intOf a).toNat)
        case atStart => exact ⟨q2, r2, rfl, rfl, ST.out⟩
        case round =>
          clear ST
          obtain ⟨qb, rb, rfl, rfl, hr⟩ := hrel
          have b8 : (qb : Int) ≤ 4294967297 := by have := hr.2.2.2; omega
          have b9 : (rb : Int) < 4294967296 := by have := hr.2.2.1; omega
          have HS := Lib.hid (fun ht hb => Dv.rel_step hr W1.out Q0.out ht hb)
          have HB := Lib.hid (fun ht hb => Dv.rel_break hr W1.out Q0.out P0.out ht hb)
          have HE := Lib.hid (fun hq ht => Dv.rel_end hr hq ht)
          have HP := Lib.hid (fun ht => (Dv.rel_more hr W1.out Q0.out ht).1)
          clear hr
          have i2 : (u0 : Int) < 4294967296 := by have := Q0.out; omega
          by_cases hA0 : (4294967296 : Int) ≤ qb
          · have hA : decide ((4294967296 : Int) ≤ (qb : Int)) = true := by simpa using hA0
            have hq1 : (0 : Int) < qb := by omega
            by_cases hC0 : (rb : Int) + n1 < 4294967296
            · have hC : decide ((4294967296 : Int) ≤ (rb : Int) + (n1 : Int)) = false := by simp; omega
              go_wp2_with fail
              go_round
              case rel => exact ⟨qb - 1, rb + n1, by go_num, by go_num, HS.out (.inl (by omega)) (by omega)⟩
              case measure => simp [intOf]; omega
            · have hC : decide ((4294967296 : Int) ≤ (rb : Int) + (n1 : Int)) = true := by simp; omega
              have F := HB.out (.inl (by omega)) (by omega)
              obtain ⟨pb, hp⟩ : ∃ pb, pb = qb - 1 := ⟨_, rfl⟩
              have rq : (qb : Int) - 1 = (pb : Int) := by omega
              rw [← hp] at F
              clear hp
              have b20 : (pb : Int) < 4294967296 := by have := F.2.2; omega
              have r20 := Dv.wrap_rest W u0 pb Y _ rfl (by rw [H2.out]; exact F.1) (by have := Dv.rest_lt F; rw [← H2.out] at this; have := P1'.out; have := P0.out; have := H2.out; omega)
              have fin := Dv.both (hi * 18446744073709551616 + lo) Y y s U u1 u0 n1 n0 p pb W H4.out H1.out H2.out F1.out (by rw [HW.out, H2.out]) F
              generalize W * 4294967296 + u0 - pb * Y = Z at r20 fin
              have F2 := Lib.hid fin
              clear F fin
              go_wp2_with fail
              go_ret2
              exact ⟨p * 4294967296 + pb, Z / 2 ^ s, quorem_end _ _ _ _, F2.out.1, F2.out.2, by omega, rfl⟩
          · have hA : decide ((4294967296 : Int) ≤ (qb : Int)) = false := by simpa using hA0
            obtain ⟨T, hT⟩ : ∃ T, T = qb * n0 := ⟨_, rfl⟩
            obtain ⟨L, hL⟩ : ∃ L, L = rb * 4294967296 + u0 := ⟨_, rfl⟩
            have t1 := mul_rule qb n0 T hT (by omega) P0.out
            have t2 : 4294967296 * (rb : Int) + (u0 : Int) = (L : Int) := by omega
            have HT := Lib.hid hT
            have HL := Lib.hid hL
            clear hT hL
            by_cases hD0 : L < T
            · have hD : decide (L < T) = true := by simpa using hD0
              have hq1 : (0 : Int) < qb := by have := HP.out (.inr (by rw [← HT.out, ← HL.out]; exact hD0)); omega
              by_cases hC0 : (rb : Int) + n1 < 4294967296
              · have hC : decide ((4294967296 : Int) ≤ (rb : Int) + (n1 : Int)) = false := by simp; omega
                go_wp2_with fail
                go_round
                case rel => exact ⟨qb - 1, rb + n1, by go_num, by go_num, HS.out (.inr (by rw [← HT.out, ← HL.out]; exact hD0)) (by omega)⟩
                case measure => simp [intOf]; omega
              · have hC : decide ((4294967296 : Int) ≤ (rb : Int) + (n1 : Int)) = true := by simp; omega
                have F := HB.out (.inr (by rw [← HT.out, ← HL.out]; exact hD0)) (by omega)
                obtain ⟨pb, hp⟩ : ∃ pb, pb = qb - 1 := ⟨_, rfl⟩
                have rq : (qb : Int) - 1 = (pb : Int) := by omega
                rw [← hp] at F
                clear hp
                have b20 : (pb : Int) < 4294967296 := by have := F.2.2; omega
                have r20 := Dv.wrap_rest W u0 pb Y _ rfl (by rw [H2.out]; exact F.1) (by have := Dv.rest_lt F; rw [← H2.out] at this; have := P1'.out; have := P0.out; have := H2.out; omega)
                have fin := Dv.both (hi * 18446744073709551616 + lo) Y y s U u1 u0 n1 n0 p pb W H4.out H1.out H2.out F1.out (by rw [HW.out, H2.out]) F
                generalize W * 4294967296 + u0 - pb * Y = Z at r20 fin
                have F2 := Lib.hid fin
                clear F fin
                go_wp2_with fail
                go_ret2
                exact ⟨p * 4294967296 + pb, Z / 2 ^ s, quorem_end _ _ _ _, F2.out.1, F2.out.2, by omega, rfl⟩
            · have hD : decide (L < T) = false := by simpa using hD0
              have F := HE.out (by omega) (by rw [← HT.out, ← HL.out]; omega)
              have b20 : (qb : Int) < 4294967296 := by have := F.2.2; omega
              have r20 := Dv.wrap_rest W u0 qb Y _ rfl (by rw [H2.out]; exact F.1) (by have := Dv.rest_lt F; rw [← H2.out] at this; have := P1'.out; have := P0.out; have := H2.out; omega)
              have fin := Dv.both (hi * 18446744073709551616 + lo) Y y s U u1 u0 n1 n0 p qb W H4.out H1.out H2.out F1.out (by rw [HW.out, H2.out]) F
              generalize W * 4294967296 + u0 - qb * Y = Z at r20 fin
              have F2 := Lib.hid fin
              clear F fin
              go_wp2_with fail
              go_ret2
              exact ⟨p * 4294967296 + qb, Z / 2 ^ s, quorem_end _ _ _ _, F2.out.1, F2.out.2, by omega, rfl⟩
    · have hA : decide ((4294967296 : Int) ≤ (q : Int)) = false := by simpa using hA0
      obtain ⟨T, hT⟩ : ∃ T, T = q * n0 := ⟨_, rfl⟩
      obtain ⟨L, hL⟩ : ∃ L, L = r * 4294967296 + u1 := ⟨_, rfl⟩
      have t1 := mul_rule q n0 T hT (by omega) P0.out
      have t2 : 4294967296 * (r : Int) + (u1 : Int) = (L : Int) := by omega
      have HT := Lib.hid hT
      have HL := Lib.hid hL
      clear hT hL
      by_cases hD0 : L < T
      · have hD : decide (L < T) = true := by simpa using hD0
        have hq1 : (0 : Int) < q := by have := HP.out (.inr (by rw [← HT.out, ← HL.out]; exact hD0)); omega
        by_cases hC0 : (r : Int) + n1 < 4294967296
        · have hC : decide ((4294967296 : Int) ≤ (r : Int) + (n1 : Int)) = false := by simp; omega
          go_wp2_with fail
          go_round
          case rel => exact ⟨q - 1, r + n1, by go_num, by go_num, HS.out (.inr (by rw [← HT.out, ← HL.out]; exact hD0)) (by omega)⟩
          case measure => simp [intOf]; omega
        · have hC : decide ((4294967296 : Int) ≤ (r : Int) + (n1 : Int)) = true := by simp; omega
          have F := HB.out (.inr (by rw [← HT.out, ← HL.out]; exact hD0)) (by omega)
          obtain ⟨p, hp⟩ : ∃ p, p = q - 1 := ⟨_, rfl⟩
          have rq : (q : Int) - 1 = (p : Int) := by omega
          rw [← hp] at F
          clear hp
          have b10 : (p : Int) < 4294967296 := by have := F.2.2; omega
          obtain ⟨W, hW⟩ : ∃ W, W = U * 4294967296 + u1 - p * (n1 * 4294967296 + n0) := ⟨_, rfl⟩
          have w1 := Dv.rest_lt F
          rw [← hW] at w1
          have r10 := Dv.wrap_rest U u1 p Y W (by rw [H2.out]; exact hW) (by rw [H2.out]; exact F.1) (by have := P1'.out; have := P0.out; omega)
          have r11 := quo_rule W n1 (by have := P1.out; omega) (by have := P1'.out; have := P0.out; omega)
          have r12 := rem_rule W n1 (by have := P1.out; omega) (by have := P1'.out; have := P0.out; omega)
          have st := Dv.rel_start P1.out P1'.out P0.out Q0.out w1
          have z1 : (1 : Int) ≤ n1 := by have := P1.out; omega
          have z2 : (W : Int) ≤ 18446744073709551615 := by have := P1'.out; have := P0.out; omega
          generalize W / n1 = q2 at *
          generalize W % n1 = r2 at *
          have F1 := Lib.hid F
          have HW := Lib.hid hW
          have W1 := Lib.hid w1
          have ST := Lib.hid st
          clear F hW w1 st
          go_wp2_with fail
          clear r10 r11 r12 HS HB HE HP hA
          try clear t1
          try clear t2
          try clear hD
          try clear hC
          try clear rq
          try clear hq1
          clear b8 b9
          go_loop [18, 16] (fun a b => ∃ q r : Nat, a = .int .u64 q ∧ b = .int .u64 r ∧ Dv.Rel W u0 n1 n0 q r) (fun a _ => (intOf a).toNat)
          case atStart => exact ⟨q2, r2, rfl, rfl, ST.out⟩
          case round =>
            clear ST
            obtain ⟨qb, rb, rfl, rfl, hr⟩ := hrel
            have b8 : (qb : Int) ≤ 4294967297 := by have := hr.2.2.2; omega
            have b9 : (rb : Int) < 4294967296 := by have := hr.2.2.1; omega
            have HS := Lib.hid (fun ht hb => Dv.rel_step hr W1.out Q0.out ht hb)
            have HB := Lib.hid (fun ht hb => Dv.rel_break hr W1.out Q0.out P0.out ht hb)
            have HE := Lib.hid (fun hq ht => Dv.rel_end hr hq ht)
            have HP := Lib.hid (fun ht => (Dv.rel_more hr W1.out Q0.out ht).1)
            clear hr
            have i2 : (u0 : Int) < 4294967296 := by have := Q0.out; omega
            by_cases hA0 : (4294967296 : Int) ≤ qb
            · have hA : decide ((4294967296 : Int) ≤ (qb : Int)) = true := by simpa using hA0
              have hq1 : (0 : Int) < qb := by omega
              by_cases hC0 : (rb : Int) + n1 < 4294967296
              · have hC : decide ((4294967296 : Int) ≤ (rb : Int) + (n1 : Int)) = false := by simp; omega
                go_wp2_with fail
                go_round
                case rel => exact ⟨qb - 1, rb + n1, by go_num, by go_num, HS.out (.inl (by omega)) (by omega)⟩
                case measure => simp [intOf]; omega
              · have hC : decide ((4294967296 : Int) ≤ (rb : Int) + (n1 : Int)) = true := by simp; omega
                have F := HB.out (.inl (by omega)) (by omega)
                obtain ⟨pb, hp⟩ : ∃ pb, pb = qb - 1 := ⟨_, rfl⟩
                have rq : (qb : Int) - 1 = (pb : Int) := by omega
                rw [← hp] at F
                clear hp
                have b20 : (pb : Int) < 4294967296 := by have := F.2.2; omega
                have r20 := Dv.wrap_rest W u0 pb Y _ rfl (by rw [H2.out]; exact F.1) (by have := Dv.rest_lt F; rw [← H2.out] at this; have := P1'.out; have := P0.out; have := H2.out; omega)
                have fin := Dv.both (hi * 18446744073709551616 + lo) Y y s U u1 u0 n1 n0 p pb W H4.out H1.out H2.out F1.out (by rw [HW.out, H2.out]) F
                generalize W * 4294967296 + u0 - pb * Y = Z at r20 fin
                have F2 := Lib.hid fin
                clear F fin
                go_wp2_with fail
                go_ret2
                exact ⟨p * 4294967296 + pb, Z / 2 ^ s, quorem_end _ _ _ _, F2.out.1, F2.out.2, by omega, rfl⟩
            · have hA : decide ((4294967296 : Int) ≤ (qb : Int)) = false := by simpa using hA0
              obtain ⟨T, hT⟩ : ∃ T, T = qb * n0 := ⟨_, rfl⟩
              obtain ⟨L, hL⟩ : ∃ L, L = rb * 4294967296 + u0 := ⟨_, rfl⟩
              have t1 := mul_rule qb n0 T hT (by omega) P0.out
              have t2 : 4294967296 * (rb : Int) + (u0 : Int) = (L : Int) := by omega
              have HT := Lib.hid hT
              have HL := Lib.hid hL
              clear hT hL
              by_cases hD0 : L < T
              · have hD : decide (L < T) = true := by simpa using hD0
                have hq1 : (0 : Int) < qb := by have := HP.out (.inr (by rw [← HT.out, ← HL.out]; exact hD0)); omega
                by_cases hC0 : (rb : Int) + n1 < 4294967296
                · have hC : decide ((4294967296 : Int) ≤ (rb : Int) + (n1 : Int)) = false := by simp; omega
                  go_wp2_with fail
                  go_round
                  case rel => exact ⟨qb - 1, rb + n1, by go_num, by go_num, HS.out (.inr (by rw [← HT.out, ← HL.out]; exact hD0)) (by omega)⟩
                  case measure => simp [intOf]; omega
                · have hC : decide ((4294967296 : Int) ≤ (rb : Int) + (n1 : Int)) = true := by simp; omega
                  have F := HB.out (.inr (by rw [← HT.out, ← HL.out]; exact hD0)) (by omega)
                  obtain ⟨pb, hp⟩ : ∃ pb, pb = qb - 1 := ⟨_, rfl⟩
                  have rq : (qb : Int) - 1 = (pb : Int) := by omega
                  rw [← hp] at F
                  clear hp
                  have b20 : (pb : Int) < 4294967296 := by have := F.2.2; omega
                  have r20 := Dv.wrap_rest W u0 pb Y _ rfl (by rw [H2.out]; exact F.1) (by have := Dv.rest_lt F; rw [← H2.out] at this; have := P1'.out; have := P0.out; have := H2.out; omega)
                  have fin := Dv.both (hi * 18446744073709551616 + lo) Y y s U u1 u0 n1 n0 p pb W H4.out H1.out H2.out F1.out (by rw [HW.out, H2.out]) F
                  generalize W * 4294967296 + u0 - pb * Y = Z at r20 fin
                  have F2 := Lib.hid fin
                  clear F fin
                  go_wp2_with fail
                  go_ret2
                  exact ⟨p * 4294967296 + pb, Z / 2 ^ s, quorem_end _ _ _ _, F2.out.1, F2.out.2, by omega, rfl⟩
              · have hD : decide (L < T) = false := by simpa using hD0
                have F := HE.out (by omega) (by rw [← HT.out, ← HL.out]; omega)
                have b20 : (qb : Int) < 4294967296 := by have := F.2.2; omega
                have r20 := Dv.wrap_rest W u0 qb Y _ rfl (by rw [H2.out]; exact F.1) (by have := Dv.rest_lt F; rw [← H2.out] at this; have := P1'.out; have := P0.out; have := H2.out; omega)
                have fin := Dv.both (hi * 18446744073709551616 + lo) Y y s U u1 u0 n1 n0 p qb W H4.out H1.out H2.out F1.out (by rw [HW.out, H2.out]) F
                generalize W * 4294967296 + u0 - qb * Y = Z at r20 fin
                have F2 := Lib.hid fin
                clear F fin
                go_wp2_with fail
                go_ret2
                exact ⟨p * 4294967296 + qb, Z / 2 ^ s, quorem_end _ _ _ _, F2.out.1, F2.out.2, by omega, rfl⟩
      · have hD : decide (L < T) = false := by simpa using hD0
        have F := HE.out (by omega) (by rw [← HT.out, ← HL.out]; omega)
        have b10 : (q : Int) < 4294967296 := by have := F.2.2; omega
        obtain ⟨W, hW⟩ : ∃ W, W = U * 4294967296 + u1 - q * (n1 * 4294967296 + n0) := ⟨_, rfl⟩
        have w1 := Dv.rest_lt F
        rw [← hW] at w1
        have r10 := Dv.wrap_rest U u1 q Y W (by rw [H2.out]; exact hW) (by rw [H2.out]; exact F.1) (by have := P1'.out; have := P0.out; omega)
        have r11 := quo_rule W n1 (by have := P1.out; omega) (by have := P1'.out; have := P0.out; omega)
        have r12 := rem_rule W n1 (by have := P1.out; omega) (by have := P1'.out; have := P0.out; omega)
        have st := Dv.rel_start P1.out P1'.out P0.out Q0.out w1
        have z1 : (1 : Int) ≤ n1 := by have := P1.out; omega
        have z2 : (W : Int) ≤ 18446744073709551615 := by have := P1'.out; have := P0.out; omega
        generalize W / n1 = q2 at *
        generalize W % n1 = r2 at *
        have F1 := Lib.hid F
        have HW := Lib.hid hW
        have W1 := Lib.hid w1
        have ST := Lib.hid st
        clear F hW w1 st
        go_wp2_with fail
        clear r10 r11 r12 HS HB HE HP hA
        try clear t1
        try clear t2
        try clear hD
        try clear hC
        try clear rq
        try clear hq1
        clear b8 b9
        go_loop [18, 16] (fun a b => ∃ q r : Nat, a = .int .u64 q ∧ b = .int .u64 r ∧ Dv.Rel W u0 n1 n0 q r) (fun a _ => (intOf a).toNat)
        case atStart => exact ⟨q2, r2, rfl, rfl, ST.out⟩
        case round =>
          clear ST
          obtain ⟨qb, rb, rfl, rfl, hr⟩ := hrel
          have b8 : (qb : Int) ≤ 4294967297 := by have := hr.2.2.2; omega
          have b9 : (rb : Int) < 4294967296 := by have := hr.2.2.1; omega
          have HS := Lib.hid (fun ht hb => Dv.rel_step hr W1.out Q0.out ht hb)
          have HB := Lib.hid (fun ht hb => Dv.rel_break hr W1.out Q0.out P0.out ht hb)
          have HE := Lib.hid (fun hq ht => Dv.rel_end hr hq ht)
          have HP := Lib.hid (fun ht => (Dv.rel_more hr W1.out Q0.out ht).1)
          clear hr
          have i2 : (u0 : Int) < 4294967296 := by have := Q0.out; omega
          by_cases hA0 : (4294967296 : Int) ≤ qb
          · have hA : decide ((4294967296 : Int) ≤ (qb : Int)) = true := by simpa using hA0
            have hq1 : (0 : Int) < qb := by omega
            by_cases hC0 : (rb : Int) + n1 < 4294967296
            · have hC : decide ((4294967296 : Int) ≤ (rb : Int) + (n1 : Int)) = false := by simp; omega
              go_wp2_with fail
              go_round
              case rel => exact ⟨qb - 1, rb + n1, by go_num, by go_num, HS.out (.inl (by omega)) (by omega)⟩
              case measure => simp [intOf]; omega
            · have hC : decide ((4294967296 : Int) ≤ (rb : Int) + (n1 : Int)) = true := by simp; omega
              have F := HB.out (.inl (by omega)) (by omega)
              obtain ⟨pb, hp⟩ : ∃ pb, pb = qb - 1 := ⟨_, rfl⟩
              have rq : (qb : Int) - 1 = (pb : Int) := by omega
              rw [← hp] at F
              clear hp
              have b20 : (pb : Int) < 4294967296 := by have := F.2.2; omega
              have r20 := Dv.wrap_rest W u0 pb Y _ rfl (by rw [H2.out]; exact F.1) (by have := Dv.rest_lt F; rw [← H2.out] at this; have := P1'.out; have := P0.out; have := H2.out; omega)
              have fin := Dv.both (hi * 18446744073709551616 + lo) Y y s U u1 u0 n1 n0 q pb W H4.out H1.out H2.out F1.out (by rw [HW.out, H2.out]) F
              generalize W * 4294967296 + u0 - pb * Y = Z at r20 fin
              have F2 := Lib.hid fin
              clear F fin
              go_wp2_with fail
              go_ret2
              exact ⟨q * 4294967296 + pb, Z / 2 ^ s, quorem_end _ _ _ _, F2.out.1, F2.out.2, by omega, rfl⟩
          · have hA : decide ((4294967296 : Int) ≤ (qb : Int)) = false := by simpa using hA0
            obtain ⟨T, hT⟩ : ∃ T, T = qb * n0 := ⟨_, rfl⟩
            obtain ⟨L, hL⟩ : ∃ L, L = rb * 4294967296 + u0 := ⟨_, rfl⟩
            have t1 := mul_rule qb n0 T hT (by omega) P0.out
            have t2 : 4294967296 * (rb : Int) + (u0 : Int) = (L : Int) := by omega
            have HT := Lib.hid hT
            have HL := Lib.hid hL
            clear hT hL
            by_cases hD0 : L < T
            · have hD : decide (L < T) = true := by simpa using hD0
              have hq1 : (0 : Int) < qb := by have := HP.out (.inr (by rw [← HT.out, ← HL.out]; exact hD0)); omega
              by_cases hC0 : (rb : Int) + n1 < 4294967296
              · have hC : decide ((4294967296 : Int) ≤ (rb : Int) + (n1 : Int)) = false := by simp; omega
                go_wp2_with fail
                go_round
                case rel => exact ⟨qb - 1, rb + n1, by go_num, by go_num, HS.out (.inr (by rw [← HT.out, ← HL.out]; exact hD0)) (by omega)⟩
                case measure => simp [intOf]; omega
              · have hC : decide ((4294967296 : Int) ≤ (rb : Int) + (n1 : Int)) = true := by simp; omega
                have F := HB.out (.inr (by rw [← HT.out, ← HL.out]; exact hD0)) (by omega)
                obtain ⟨pb, hp⟩ : ∃ pb, pb = qb - 1 := ⟨_, rfl⟩
                have rq : (qb : Int) - 1 = (pb : Int) := by omega
                rw [← hp] at F
                clear hp
                have b20 : (pb : Int) < 4294967296 := by have := F.2.2; omega
                have r20 := Dv.wrap_rest W u0 pb Y _ rfl (by rw [H2.out]; exact F.1) (by have := Dv.rest_lt F; rw [← H2.out] at this; have := P1'.out; have := P0.out; have := H2.out; omega)
                have fin := Dv.both (hi * 18446744073709551616 + lo) Y y s U u1 u0 n1 n0 q pb W H4.out H1.out H2.out F1.out (by rw [HW.out, H2.out]) F
                generalize W * 4294967296 + u0 - pb * Y = Z at r20 fin
                have F2 := Lib.hid fin
                clear F fin
                go_wp2_with fail
                go_ret2
                exact ⟨q * 4294967296 + pb, Z / 2 ^ s, quorem_end _ _ _ _, F2.out.1, F2.out.2, by omega, rfl⟩
            · have hD : decide (L < T) = false := by simpa using hD0
              have F := HE.out (by omega) (by rw [← HT.out, ← HL.out]; omega)
              have b20 : (qb : Int) < 4294967296 := by have := F.2.2; omega
              have r20 := Dv.wrap_rest W u0 qb Y _ rfl (by rw [H2.out]; exact F.1) (by have := Dv.rest_lt F; rw [← H2.out] at this; have := P1'.out; have := P0.out; have := H2.out; omega)
              have fin := Dv.both (hi * 18446744073709551616 + lo) Y y s U u1 u0 n1 n0 q qb W H4.out H1.out H2.out F1.out (by rw [HW.out, H2.out]) F
              generalize W * 4294967296 + u0 - qb * Y = Z at r20 fin
              have F2 := Lib.hid fin
              clear F fin
              go_wp2_with fail
              go_ret2
              exact ⟨q * 4294967296 + qb, Z / 2 ^ s, quorem_end _ _ _ _, F2.out.1, F2.out.2, by omega, rfl⟩
end Go.Proofs.YtcbnmoghjhljbaaGreat
end
section
namespace Go.Proofs.YtcbnmoghjhljbaaGreat
open Go.RowKit Go.Proofs.Mem
set_option linter.unusedVariables false
set_option linter.unusedSimpArgs false

def WideIs (N : Nat) (w : World) (e : Ending) (w' : World) : Prop := ∃ h l : Nat, e = .returned (.agg #[.int .u64 h, .int .u64 l]) ∧ N = h * 18446744073709551616 + l ∧ h < 18446744073709551616 ∧ l < 18446744073709551616 ∧ Below w.heap.size w w'

theorem wof_any (a b : Nat) (w : World) (ha : a < 18446744073709551616) (hb : b < 18446744073709551616) :
    Calls Tryz.prog 114 #[.int .u64 a, .int .u64 b] w (WideIs (a * b) w) := by
  have hlt : a * b / 18446744073709551616 < 18446744073709551616 := by
    rw [Nat.div_lt_iff_lt_mul (by omega)]
    exact Nat.mul_lt_mul'' ha hb
  have e := Nat.div_add_mod' (a * b) 18446744073709551616
  have hm : a * b % 18446744073709551616 < 18446744073709551616 := Nat.mod_lt _ (by omega)
  have C := Lib.hid (fun w1 => Tryz.bits_Mul64 a b ha hb w1)
  generalize a * b / 18446744073709551616 = h at *
  generalize a * b % 18446744073709551616 = l at *
  have HE := Lib.hid e
  have H1 := Lib.hid hlt
  have H2 := Lib.hid hm
  clear e hlt hm ha hb
  go_enter Tryz.func114, Tryz.ntmps114
  go_wp2_with (go_at_call 128; refine (C.out _).mono ?_; rintro e w' ⟨rfl, rfl⟩)
  exact bodyPost_ret (v := .agg #[.int .u64 h, .int .u64 l]) (by simp [results, Tryz.results114, go_sem]) rfl ⟨h, l, rfl, HE.out.symm, H1.out, H2.out, (Below.refl _ _).alloc (Nat.le_refl _) _⟩

def QuoRemD (N y : Nat) (w : World) (e : Ending) (w' : World) : Prop := ∃ q r : Nat, e = .returned (.tuple #[.int .u64 q, .int .u64 r]) ∧ N = q * y + r ∧ r < y ∧ q < 18446744073709551616 ∧ ∃ n, w' = w.drewN n
theorem quo0_rule (l y : Nat) (hl : l < 18446744073709551616) : (l : Int) / (y : Int) = ((l / y : Nat) : Int) ∧ (l : Int) % (y : Int) = ((l % y : Nat) : Int) := ⟨by push_cast; rfl, by push_cast; rfl⟩
theorem div64_zero (l y : Nat) (w : World) (hl : l < 18446744073709551616) (hy : y < 18446744073709551616) (h0 : 0 < y) :
    Calls Tryz.prog 129 #[.int .u64 0, .int .u64 l, .int .u64 y] w (QuoRemD l y w) := by
  obtain ⟨e1, e2⟩ := quo0_rule l y hl
  have e := Nat.div_add_mod' l y
  have hm := Nat.mod_lt l h0
  have hq := Nat.div_le_self l y
  generalize l / y = q at *
  generalize l % y = r at *
  have HE := Lib.hid e
  have h1 : ((y : Int) == 0) = false := by simp; omega
  have h2 : (1 : Int) ≤ y := by omega
  clear e
  go_enter Tryz.func129, Tryz.ntmps129
  go_wp2_with fail
  go_quiet (fail)
  go_wp2_with fail
  go_ret2
  exact ⟨q, r, ret_two rfl e2, HE.out.symm, hm, by omega, _, rfl⟩
theorem div64_all (h l y : Nat) (w : World) (hl : l < 18446744073709551616) (hy : y < 18446744073709551616) (hlt : h < y) :
    Calls Tryz.prog 129 #[.int .u64 h, .int .u64 l, .int .u64 y] w (QuoRemD (h * 18446744073709551616 + l) y w) := by
  rcases Nat.eq_zero_or_pos h with h0 | h0
  · subst h0
    rw [Nat.zero_mul, Nat.zero_add]
    exact div64_zero l y w hl hy hlt
  · refine (div64_any h l y w hy hl hlt h0).mono ?_
    rintro e w' ⟨q, r, rfl, h1, h2, h3, rfl⟩
    exact ⟨q, r, rfl, h1, h2, h3, 0, rfl⟩
theorem below_drewN {B : Nat} {a w : World} (h : Below B a w) (n : Nat) : Below B a (w.drewN n) := ⟨h.os, h.tape, h.output, h.size, h.block⟩
def WideDiv (N y : Nat) (w : World) (e : Ending) (w' : World) : Prop := ∃ qh ql r : Nat, e = .returned (.tuple #[.agg #[.int .u64 qh, .int .u64 ql], .int .u64 r, .int .i64 0]) ∧ N = (qh * 18446744073709551616 + ql) * y + r ∧ r < y ∧ qh < 18446744073709551616 ∧ ql < 18446744073709551616 ∧ Below w.heap.size w w'
theorem wdiv_arith' (K h l y qh rh q r : Nat) (e1 : qh * y + rh = h) (e2 : rh * K + l = q * y + r) : h * K + l = (qh * K + q) * y + r := by
  subst e1
  rw [Nat.add_mul, Nat.add_mul, Nat.mul_right_comm, Nat.add_assoc, Nat.add_assoc, e2]
theorem wdiv_arith (h l y qh rh q r : Nat) (e1 : qh * y + rh = h) (e2 : rh * 18446744073709551616 + l = q * y + r) : h * 18446744073709551616 + l = (qh * 18446744073709551616 + q) * y + r := wdiv_arith' _ h l y qh rh q r e1 e2
theorem wdiv_any (h l y : Nat) (w : World) (hh : h < 18446744073709551616) (hl : l < 18446744073709551616) (hy : y < 18446744073709551616) (h0 : 0 < y) :
    Calls Tryz.prog 115 #[.agg #[.int .u64 h, .int .u64 l], .int .u64 y] w (WideDiv (h * 18446744073709551616 + l) y w) := by
  have h1 : ((y : Int) == 0) = false := by simp; omega
  have h2 : (1 : Int) ≤ y := by omega
  obtain ⟨e1, e2⟩ := quo0_rule h y hh
  have e := Nat.div_add_mod' h y
  have hm := Nat.mod_lt h h0
  have hq := Nat.div_le_self h y
  generalize h / y = qh at *
  generalize h % y = rh at *
  have HE := Lib.hid e
  clear e
  go_enter Tryz.func115, Tryz.ntmps115
  go_wp2_with fail
  go_quiet (fail)
  go_wp2_with (go_at_call 129; refine (div64_all rh l y _ hl hy hm).mono ?_; rintro e w1 ⟨q, r, rfl, d1, d2, d3, n1, rfl⟩; have D1 := Lib.hid d1; clear d1)
  refine bodyPost_ret (v := .tuple #[.agg #[.int .u64 qh, .int .u64 q], .int .u64 r, .int .i64 0]) (by simp [results, Tryz.results115, go_sem]) rfl ⟨qh, q, r, rfl, wdiv_arith h l y qh rh q r HE.out D1.out, d2, by omega, d3, ?_⟩
  exact ((below_drewN (((Below.refl _ _).alloc (Nat.le_refl _) _).alloc (by simp) _) _).setCell (by simp) _).setCell (by simp) _

/-! ### Sums and comparisons -/
theorem add64_run (x y c : Nat) (hx : x < 18446744073709551616) (hy : y < 18446744073709551616) (hc : c ≤ 1) (w : World) : (callFunc 130 #[.int .u64 x, .int .u64 y, .int .u64 c]).run Tryz.prog w =
    .ok (.value (.tuple #[.int .u64 (((x + y + c) % 18446744073709551616 : Nat) : Int), .int .u64 (((x + y + c) / 18446744073709551616 : Nat) : Int)])) w := by
  rw [run_callFunc_extern Tryz.func130 (by kernel_rfl) (by kernel_rfl) (by kernel_rfl) (e := add64Entry) (by kernel_rfl), run_add64 x y c (by omega) (by omega) (by omega) (by omega)]
  simp only [Result.andThen]
  congr 5 <;> omega
def WideSum (N : Nat) (w : World) (e : Ending) (w' : World) : Prop := ∃ h l c : Nat, e = .returned (.tuple #[.agg #[.int .u64 h, .int .u64 l], .bool ((c : Int) == 1)]) ∧ N = c * 340282366920938463463374607431768211456 + h * 18446744073709551616 + l ∧ h < 18446744073709551616 ∧ l < 18446744073709551616 ∧ c ≤ 1 ∧ Below w.heap.size w w'
theorem wadd_any (ah al bh bl : Nat) (w : World) (h1 : ah < 18446744073709551616) (h2 : al < 18446744073709551616) (h3 : bh < 18446744073709551616) (h4 : bl < 18446744073709551616) :
    Calls Tryz.prog 116 #[.agg #[.int .u64 ah, .int .u64 al], .agg #[.int .u64 bh, .int .u64 bl]] w (WideSum (ah * 18446744073709551616 + al + (bh * 18446744073709551616 + bl)) w) := by
  have r1 := fun w1 => add64_run al bl 0 h2 h4 (by omega) w1
  rw [Int.natCast_zero] at r1
  obtain ⟨l, hl⟩ : ∃ l, l = (al + bl + 0) % 18446744073709551616 := ⟨_, rfl⟩
  obtain ⟨c, hc⟩ : ∃ c, c = (al + bl + 0) / 18446744073709551616 := ⟨_, rfl⟩
  rw [← hl, ← hc] at r1
  have r2 := fun w1 => add64_run ah bh c h1 h3 (by omega) w1
  obtain ⟨h, hh⟩ : ∃ h, h = (ah + bh + c) % 18446744073709551616 := ⟨_, rfl⟩
  obtain ⟨d, hd⟩ : ∃ d, d = (ah + bh + c) / 18446744073709551616 := ⟨_, rfl⟩
  rw [← hh, ← hd] at r2
  have F : ah * 18446744073709551616 + al + (bh * 18446744073709551616 + bl) = d * 340282366920938463463374607431768211456 + h * 18446744073709551616 + l ∧ h < 18446744073709551616 ∧ l < 18446744073709551616 ∧ d ≤ 1 := by omega
  have HF := Lib.hid F
  clear F hl hc hh hd h1 h2 h3 h4
  go_enter Tryz.func116, Tryz.ntmps116
  go_wp2_with fail
  refine bodyPost_ret (v := .tuple #[.agg #[.int .u64 h, .int .u64 l], .bool ((d : Int) == 1)]) (by simp [results, Tryz.results116, go_sem]) rfl ⟨h, l, d, rfl, HF.out.1, HF.out.2.1, HF.out.2.2.1, HF.out.2.2.2, ?_⟩
  exact (((Below.refl _ _).alloc (Nat.le_refl _) _).alloc (by simp) _).alloc (by simp; omega) _
def mulDivN (a b y : Nat) (up : Bool) : Nat := a * b / y + if up = true ∧ 0 < a * b % y then 1 else 0
def MulDivIs (a b y : Nat) (up : Bool) (w : World) (e : Ending) (w' : World) : Prop :=
  ((y = 0 ∧ e = .returned (.tuple #[.int .u64 0, .int .i64 5])) ∨ (0 < y ∧ 18446744073709551616 ≤ mulDivN a b y up ∧ e = .returned (.tuple #[.int .u64 0, .int .i64 4])) ∨
    (0 < y ∧ ∃ n : Nat, n = mulDivN a b y up ∧ n < 18446744073709551616 ∧ e = .returned (.tuple #[.int .u64 n, .int .i64 0]))) ∧ Below w.heap.size w w'
theorem mulDiv_arith (N y Q r : Nat) (h : N = Q * y + r) (hr : r < y) : N / y = Q ∧ N % y = r := by
  subst h
  have hy : 0 < y := by omega
  rw [Nat.mul_comm, Nat.mul_add_div hy, Nat.div_eq_of_lt hr, Nat.mul_add_mod, Nat.mod_eq_of_lt hr]
  exact ⟨rfl, rfl⟩
theorem quo_small' (a b y Q K : Nat) (ha : a ≤ K) (hb : b ≤ K) (h : a * b / y = Q) : Q ≤ K * K := by
  have h1 : a * b ≤ K * K := Nat.mul_le_mul ha hb
  have h2 := Nat.div_le_self (a * b) y
  omega
theorem quo_small (a b y Q : Nat) (ha : a < 18446744073709551616) (hb : b < 18446744073709551616) (h : a * b / y = Q) : Q ≤ 340282366920938463426481119284349108225 :=
  by
  have e : 18446744073709551615 * 18446744073709551615 = 340282366920938463426481119284349108225 := by rfl
  rw [← e]
  exact quo_small' a b y Q 18446744073709551615 (by clear h e; omega) (by clear h e; omega) h
theorem sum_one' (L M Q c t : Nat) (hM : L + 1 < M) (hQ : Q ≤ L) (h : Q + 1 = c * M + t) : Q + 1 = t := by
  rcases Nat.eq_zero_or_pos c with h0 | h0
  · subst h0; omega
  · have := Nat.le_mul_of_pos_left M h0
    omega
theorem sum_one (qh ql sh sl c : Nat) (hQ : qh * 18446744073709551616 + ql ≤ 340282366920938463426481119284349108225) (h : qh * 18446744073709551616 + ql + 1 = c * 340282366920938463463374607431768211456 + sh * 18446744073709551616 + sl) :
    qh * 18446744073709551616 + ql + 1 = sh * 18446744073709551616 + sl :=
  sum_one' _ _ _ c _ (by decide) hQ (h.trans (Nat.add_assoc _ _ _))
theorem wadd_one (ah al : Nat) (w : World) (h1 : ah < 18446744073709551616) (h2 : al < 18446744073709551616) :
    Calls Tryz.prog 116 #[.agg #[.int .u64 ah, .int .u64 al], .agg #[.int .u64 0, .int .u64 1]] w (WideSum (ah * 18446744073709551616 + al + 1) w) := by
  have := wadd_any ah al 0 1 w h1 h2 (by omega) (by omega)
  simpa using this
theorem mulDivN_plain (a b y : Nat) (up : Bool) (r : Nat) (hr : a * b % y = r) (h : ¬ (up = true ∧ 0 < r)) : mulDivN a b y up = a * b / y := by
  unfold mulDivN
  rw [hr, if_neg h, Nat.add_zero]
theorem mulDivN_up (a b y r : Nat) (hr : a * b % y = r) (h : 0 < r) : mulDivN a b y true = a * b / y + 1 := by
  unfold mulDivN
  rw [hr, if_pos ⟨rfl, h⟩]
theorem muldiv_some (a b y : Nat) (up : Bool) (w : World) (ha : a < 18446744073709551616) (hb : b < 18446744073709551616) (hy : y < 18446744073709551616) (h0 : 0 < y) :
    Calls Tryz.prog 95 #[.int .u64 a, .int .u64 b, .int .u64 y, .bool up] w (MulDivIs a b y up w) := by
  go_enter Tryz.func95, Tryz.ntmps95
  go_wp2_with fail
  refine (wof_any a b w ha hb).mono ?_
  rintro e w1 ⟨h, l, rfl, e1, k1, k2, hb1⟩
  go_wp2_with fail
  refine (wdiv_any h l y w1 k1 k2 hy h0).mono ?_
  rintro e w2 ⟨qh, ql, r, rfl, d1, d2, d3, d4, hb2⟩
  rw [← e1] at d1
  have hb3 := hb1.trans (hb2.mono hb1.size)
  have A := Lib.hid (mulDiv_arith _ _ _ _ d1 d2)
  have B := Lib.hid (quo_small a b y _ ha hb (mulDiv_arith _ _ _ _ d1 d2).1)
  have hsz := hb3.size
  clear e1 d1 hb1 hb2 d2
  by_cases hup : up = true ∧ 0 < r
  · obtain ⟨rfl, hr⟩ := hup
    go_wp2_with fail
    refine (wadd_one qh ql _ d3 d4).mono ?_
    rintro e w4 ⟨sh, sl, c, rfl, s1, s2, s3, s4, hb4⟩
    have hb5 : Below w.heap.size w w4 := Below.trans (b := w2.alloc _) (hb3.alloc hsz _) (hb4.mono (by simp; omega))
    have hcell := hb4.size
    simp only [World.size_alloc] at hcell
    have S := Lib.hid (sum_one qh ql sh sl c B.out s1)
    clear s1
    have c0 := hb4.cell (p := ⟨w2.heap.size, 0, none⟩) (by simp)
    have c1 := hb4.cell (p := ⟨w2.heap.size, 1, none⟩) (by simp)
    have f0 := hb4.frozen (p := ⟨w2.heap.size, 0, none⟩) (by simp)
    have f1 := hb4.frozen (p := ⟨w2.heap.size, 1, none⟩) (by simp)
    rw [World.cell?_alloc_at _ _ _ _ rfl] at c0 c1
    rw [World.frozen?_alloc_at _ _ _ _ rfl] at f0 f1
    rcases Nat.eq_zero_or_pos sh with hq | hq
    · subst hq
      have E : Hid (sl = mulDivN a b y true) := by show sl = _; rw [mulDivN_up a b y r A.out.2 hr, A.out.1, S.out]; omega
      go_wp2_with fail
      go_ret2
      refine ⟨.inr (.inr ⟨h0, sl, E.out, s3, rfl⟩), ?_⟩
      (repeat (first | exact Below.refl _ _ | assumption | refine Below.drew ?_ | refine below_drewN ?_ _ | refine Below.alloc ?_ (by first | omega | (simp; done) | (simp; omega)) _ | refine Below.setCell ?_ (by first | omega | (simp; done) | (simp; omega)) _))
    · have hq1 : (0 : Int) < sh := by omega
      have E : Hid (18446744073709551616 ≤ mulDivN a b y true) := by show _ ≤ mulDivN _ _ _ _; rw [mulDivN_up a b y r A.out.2 hr, A.out.1, S.out]; omega
      go_wp2_with fail
      go_ret2
      refine ⟨.inr (.inl ⟨h0, E.out, rfl⟩), ?_⟩
      (repeat (first | exact Below.refl _ _ | assumption | refine Below.drew ?_ | refine below_drewN ?_ _ | refine Below.alloc ?_ (by first | omega | (simp; done) | (simp; omega)) _ | refine Below.setCell ?_ (by first | omega | (simp; done) | (simp; omega)) _))
  · have hN := Lib.hid (mulDivN_plain a b y up r A.out.2 hup)
    rcases Nat.eq_zero_or_pos qh with hq | hq
    · subst hq
      have E : Hid (ql = mulDivN a b y up) := by show ql = _; rw [hN.out, A.out.1]; omega
      cases up
      · go_wp2_with fail
        go_ret2
        refine ⟨.inr (.inr ⟨h0, ql, E.out, d4, rfl⟩), ?_⟩
        (repeat (first | exact Below.refl _ _ | assumption | refine Below.drew ?_ | refine below_drewN ?_ _ | refine Below.alloc ?_ (by first | omega | (simp; done) | (simp; omega)) _ | refine Below.setCell ?_ (by first | omega | (simp; done) | (simp; omega)) _))
      · obtain rfl : r = 0 := by have : ¬ (0 < r) := fun h => hup ⟨rfl, h⟩; omega
        go_wp2_with fail
        go_ret2
        refine ⟨.inr (.inr ⟨h0, ql, E.out, d4, rfl⟩), ?_⟩
        (repeat (first | exact Below.refl _ _ | assumption | refine Below.drew ?_ | refine below_drewN ?_ _ | refine Below.alloc ?_ (by first | omega | (simp; done) | (simp; omega)) _ | refine Below.setCell ?_ (by first | omega | (simp; done) | (simp; omega)) _))
    · have hq1 : (0 : Int) < qh := by omega
      have E : Hid (18446744073709551616 ≤ mulDivN a b y up) := by show _ ≤ mulDivN _ _ _ _; rw [hN.out, A.out.1]; omega
      cases up
      · go_wp2_with fail
        go_ret2
        refine ⟨.inr (.inl ⟨h0, E.out, rfl⟩), ?_⟩
        (repeat (first | exact Below.refl _ _ | assumption | refine Below.drew ?_ | refine below_drewN ?_ _ | refine Below.alloc ?_ (by first | omega | (simp; done) | (simp; omega)) _ | refine Below.setCell ?_ (by first | omega | (simp; done) | (simp; omega)) _))
      · obtain rfl : r = 0 := by have : ¬ (0 < r) := fun h => hup ⟨rfl, h⟩; omega
        go_wp2_with fail
        go_ret2
        refine ⟨.inr (.inl ⟨h0, E.out, rfl⟩), ?_⟩
        (repeat (first | exact Below.refl _ _ | assumption | refine Below.drew ?_ | refine below_drewN ?_ _ | refine Below.alloc ?_ (by first | omega | (simp; done) | (simp; omega)) _ | refine Below.setCell ?_ (by first | omega | (simp; done) | (simp; omega)) _))
end Go.Proofs.YtcbnmoghjhljbaaGreat
end
section
namespace Go.Proofs.YtcbnmoghjhljbaaGreat
open Go.RowKit Go.Proofs.Mem Go.Proofs.Bit
set_option linter.unusedVariables false
set_option linter.unusedSimpArgs false

theorem numb_small (n : Nat) (v : Value) (w : World) (hn : n < 18446744073709551616) (hv : Bts w v (bitsOf n)) :
    Calls Tryz.prog 57 #[v] w fun e w' => e = .returned (.tuple #[.int .u64 n, .bool true]) ∧ w = w' := by
  have hlen : (bitsOf n).length ≤ 64 := length_bitsOf_le (by omega)
  have := numb_any n v w (by omega) hv
  rw [Nat.mod_eq_of_lt hn, decide_eq_true hn] at this
  exact this
theorem len64 {n : Nat} (h : n < 18446744073709551616) : (bitsOf n).length ≤ 64 := length_bitsOf_le (by omega)
theorem prod_any (a b : Nat) (u v : Value) (w : World) (ha : a < 18446744073709551616) (hb : b < 18446744073709551616) (hu : Bts w u (bitsOf a)) (hv : Bts w v (bitsOf b)) :
    Calls Tryz.prog 53 #[u, v] w (NewBts w (bitsOf (a * b))) := by
  have := mul_any (bitsOf a) (bitsOf b) u v w (by have := len64 ha; omega) (by have := len64 hb; omega) (bin_bitsOf _) (bin_bitsOf _) hu hv
  rw [val_bitsOf, val_bitsOf] at this
  exact this
theorem len_prod {a b : Nat} (ha : a < 18446744073709551616) (hb : b < 18446744073709551616) : (bitsOf (a * b)).length ≤ 128 := length_bitsOf_le (Nat.lt_of_lt_of_eq (Nat.mul_lt_mul'' ha hb) rfl)
/-! ### WideParts -/
/-! ### WideProducts -/
end Go.Proofs.YtcbnmoghjhljbaaGreat
end
section
namespace Go.Proofs.YtcbnmoghjhljbaaGreat
open Go.RowKit Go.Proofs.Mem Go.Proofs.Bit
set_option linter.unusedVariables false
set_option linter.unusedSimpArgs false

/-! ### The small tests -/
def okR (n : Int) : Bool := decide (0 ≤ n ∧ n ≤ 1000000)
theorem okR_t {m : Int} (h : okR m = true) : 0 ≤ m ∧ m ≤ 1000000 := by simpa [okR] using h
theorem some_t (m : Int) (w : World) (h : okR m = true) : Calls Tryz.prog 94 #[.int .i64 m] w fun e w' => e = .returned (.bool true) ∧ w = w' := by
  obtain ⟨h1, h2⟩ := okR_t h
  clear h
  go_enter Tryz.func94, Tryz.ntmps94
  go_wp2
  go_ret
  exact ⟨rfl, rfl⟩
/-! ### capped, Need, Whole, Percent, Share -/
theorem muldiv_ok (a b y : Nat) (up : Bool) (w : World) (ha : a ≤ 9007199254740992) (hb : b ≤ 1000000) (hy : y < 18446744073709551616) (h0 : 0 < y) (hs : mulDivN a b y up < 18446744073709551616) :
    Calls Tryz.prog 95 #[.int .u64 a, .int .u64 b, .int .u64 y, .bool up] w fun e w' => e = .returned (.tuple #[.int .u64 (mulDivN a b y up), .int .i64 0]) ∧ Below w.heap.size w w' := by
  refine (muldiv_some a b y up w (by omega) (by omega) hy h0).mono ?_
  rintro e w' ⟨h1 | h1 | h1, hb⟩
  · obtain ⟨h1, _⟩ := h1; omega
  · obtain ⟨_, h1, _⟩ := h1; omega
  · obtain ⟨_, m, h1, _, rfl⟩ := h1; subst h1; exact ⟨rfl, hb⟩
theorem mulDivN_le (a b y K : Nat) (up : Bool) (h : a * b ≤ y * K) (h0 : 0 < y) : mulDivN a b y up ≤ K := by
  unfold mulDivN
  have e := Nat.div_add_mod (a * b) y
  have hm := Nat.mod_lt (a * b) h0
  by_cases hu : up = true ∧ 0 < a * b % y
  · rw [if_pos hu]
    have : y * (a * b / y) < y * K := by omega
    have := Nat.lt_of_mul_lt_mul_left this
    omega
  · rw [if_neg hu]
    have : y * (a * b / y) ≤ y * K := by omega
    exact Nat.le_of_mul_le_mul_left this h0
theorem percent_ok (n p : Nat) (up : Bool) (w : World) (h1 : okR n = true) (h2 : okR p = true) :
    Calls Tryz.prog 68 #[.int .i64 n, .int .i64 p, .bool up] w fun e w' => e = .returned (.tuple #[.int .i64 (mulDivN n p 1000 up), .int .i64 0]) ∧ Below w.heap.size w w' := by
  have b1 := okR_t h1
  have b2 := okR_t h2
  have C1 := Lib.hid (some_t n w h1)
  have hle : mulDivN n p 1000 up ≤ 1000000000 := mulDivN_le _ _ _ _ _ (by have := Nat.mul_le_mul (show n ≤ 1000000 by omega) (show p ≤ 1000000 by omega); omega) (by omega)
  have C2 := Lib.hid (muldiv_ok n p 1000 up w (by omega) (by omega) (by omega) (by omega) (by omega))
  rw [show ((1000 : Nat) : Int) = 1000 from rfl] at C2
  generalize mulDivN n p 1000 up = N at *
  clear h1 h2
  go_enter Tryz.func68, Tryz.ntmps68
  go_wp2_with (first | (go_at_call 94; (with_reducible refine C1.out.mono ?_); rintro e w' ⟨rfl, rfl⟩) | (go_at_call 95; refine C2.out.mono ?_; rintro e w' ⟨rfl, hb⟩))
  go_ret2
  exact ⟨rfl, hb⟩
/-! ### Near -/
/-! ### The reference -/
theorem ceil_any (a b y m : Nat) (w : World) (ha : a < 18446744073709551616) (hb : b < 18446744073709551616) (hy : y < 18446744073709551616) (hm : m < 18446744073709551616) (h0 : 0 < y) :
    Calls Tryz.prog 31 #[.int .u64 a, .int .u64 b, .int .u64 y, .int .u64 m] w fun e w' => e = .returned (.int .u64 (min (mulDivN a b y true) m : Nat)) ∧ Below w.heap.size w w' := by
  go_enter Tryz.func31, Tryz.ntmps31
  go_wp2_with fail
  refine (of_any a w ha).mono ?_
  rintro e w4 ⟨x1, rfl, hx1, h4⟩
  go_wp2_with fail
  refine (of_any b w4 hb).mono ?_
  rintro e w5 ⟨x2, rfl, hx2, h5⟩
  go_wp2_with fail
  refine (prod_any a b _ _ w5 ha hb (hx1.below h5) hx2).mono ?_
  rintro e w6 ⟨x3, rfl, hx3, h6⟩
  go_wp2_with fail
  refine (of_any y w6 hy).mono ?_
  rintro e w7 ⟨x4, rfl, hx4, h7⟩
  go_wp2_with fail
  refine (div_any (bitsOf (a * b)) (bitsOf y) _ _ w7 (by have := len_prod ha hb; omega) (by have := len64 hy; omega) (bin_bitsOf _) (bin_bitsOf _) (hx3.below h7) hx4 (by rw [val_bitsOf]; exact h0)).mono ?_
  rintro e w8 ⟨x5, x6, rfl, hx5, hx6, h8⟩
  rw [val_bitsOf, val_bitsOf] at hx5 hx6
  have hb4 : Below w.heap.size w w8 := by
    have s4 := h4.size; have s5 := h5.size; have s6 := h6.size; have s7 := h7.size
    exact (((h4.trans (h5.mono (by omega))).trans (h6.mono (by omega))).trans (h7.mono (by omega))).trans (h8.mono (by omega))
  clear h4 h5 h6 h7 h8 hx1 hx2 hx3 hx4
  have hQ : a * b / y ≤ 340282366920938463426481119284349108225 := quo_small a b y _ ha hb rfl
  have lq : (bitsOf (a * b / y)).length ≤ 128 := length_bitsOf_le (by omega)
  have lr0 : (bitsOf (a * b % y)).length = 0 ↔ a * b % y = 0 := by
    have := length_bitsOf_iff (a * b % y) 0
    constructor
    · intro h; have := this.1 (by omega); simpa using this
    · intro h; have := this.2 (by simpa using h); omega
  have lr : (bitsOf (a * b % y)).length ≤ 64 := len64 (by have := Nat.mod_lt (a * b) h0; omega)
  obtain ⟨A6, c6, rfl, hc6⟩ := hx6.form
  have LQ := Lib.hid lq
  clear hQ lq hx6
  by_cases hr : 0 < a * b % y
  · have E := Lib.hid (mulDivN_up a b y _ rfl hr)
    have hpos : 0 < (bitsOf (a * b % y)).length := by
      rcases Nat.eq_zero_or_pos (bitsOf (a * b % y)).length with h | h
      · have := lr0.1 h; omega
      · exact h
    clear lr0 hr
    generalize (bitsOf (a * b % y)).length = lr' at *
    generalize a * b / y = Q at *
    go_wp2_with fail
    refine (of_any 1 w8 (by omega)).mono ?_
    rintro e w9 ⟨x7, rfl, hx7, h9⟩
    go_wp2_with fail
    refine (add_any (bitsOf Q) (bitsOf 1) _ _ w9 (by have := LQ.out; omega) (by have := len64 (n := 1) (by omega); omega) (bin_bitsOf _) (bin_bitsOf _) (hx5.below h9) hx7).mono ?_
    rintro e w10 ⟨x8, rfl, hx8, h10⟩
    rw [val_bitsOf, val_bitsOf] at hx8
    have hx8 := Bts.of_own hx8
    have LS := Lib.hid (length_add (n := 200) (x := Q) (y := 1) (by have := LQ.out; omega) (by have := len64 (n := 1) (by omega); omega))
    have hb5 : Below w.heap.size w w10 := by
      have s1 := hb4.size; have s4 := h9.size
      exact (hb4.trans (h9.mono s1)).trans (h10.mono (by omega))
    go_wp2_with fail
    refine (of_any m w10 hm).mono ?_
    rintro e w11 ⟨x9, rfl, hx9, h11⟩
    have hb6 := hb5.trans (h11.mono hb5.size)
    have hx8 := hx8.below h11
    go_wp2_with fail
    have CC := cmp_any (bitsOf (Q + 1)) (bitsOf m) _ _ w11 (by have := LS.out; omega) (by have := len64 hm; omega) (bin_bitsOf _) (bin_bitsOf _) hx8 hx9
    rw [val_bitsOf, val_bitsOf] at CC
    refine CC.mono ?_
    rintro e w12 ⟨rfl, rfl⟩
    clear CC
    by_cases hs : m < Q + 1
    · have e1 : cmpN (Q + 1) m = 1 := by unfold cmpN; rw [if_pos hs]
      have HF : Hid (min (mulDivN a b y true) m = m) := by show min _ _ = _; rw [E.out]; omega
      rw [e1]
      clear e1 hs
      go_wp2_with fail
      go_ret
      exact ⟨ret_int (by rw [HF.out]), hb6⟩
    · have e1 : cmpN (Q + 1) m ≤ 0 := by unfold cmpN; rw [if_neg hs]; split <;> omega
      have HF : Hid (min (mulDivN a b y true) m = Q + 1) := by show min _ _ = _; rw [E.out]; omega
      have HQ : Q + 1 < 18446744073709551616 := by omega
      generalize cmpN (Q + 1) m = sg at *
      clear hs
      go_wp2_with fail
      have CN := numb_any (Q + 1) _ w11 (by have := LS.out; omega) hx8
      rw [Nat.mod_eq_of_lt HQ] at CN
      refine CN.mono ?_
      rintro e w13 ⟨rfl, rfl⟩
      clear CN
      rw [← HF.out]
      go_wp2_with fail
      go_ret
      exact ⟨rfl, hb6⟩
  · have hz : a * b % y = 0 := by omega
    have E := Lib.hid (mulDivN_plain a b y true _ rfl (by simp [hz]))
    have hz2 := lr0.2 hz
    clear lr0 hr hz
    rw [hz2] at hc6 ⊢
    clear hz2 lr
    generalize a * b / y = Q at *
    go_wp2_with fail
    refine (of_any m w8 hm).mono ?_
    rintro e w11 ⟨x9, rfl, hx9, h11⟩
    have hb6 := hb4.trans (h11.mono hb4.size)
    have hx8 := hx5.below h11
    go_wp2_with fail
    have CC := cmp_any (bitsOf Q) (bitsOf m) _ _ w11 (by have := LQ.out; omega) (by have := len64 hm; omega) (bin_bitsOf _) (bin_bitsOf _) hx8 hx9
    rw [val_bitsOf, val_bitsOf] at CC
    refine CC.mono ?_
    rintro e w12 ⟨rfl, rfl⟩
    clear CC
    by_cases hs : m < Q
    · have e1 : cmpN Q m = 1 := by unfold cmpN; rw [if_pos hs]
      have HF : Hid (min (mulDivN a b y true) m = m) := by show min _ _ = _; rw [E.out]; omega
      rw [e1]
      clear e1 hs
      go_wp2_with fail
      go_ret
      exact ⟨ret_int (by rw [HF.out]), hb6⟩
    · have e1 : cmpN Q m ≤ 0 := by unfold cmpN; rw [if_neg hs]; split <;> omega
      have HF : Hid (min (mulDivN a b y true) m = Q) := by show min _ _ = _; rw [E.out]; omega
      have HQ : Q < 18446744073709551616 := by omega
      generalize cmpN Q m = sg at *
      clear hs
      go_wp2_with fail
      have CN := numb_any Q _ w11 (by have := LQ.out; omega) hx8
      rw [Nat.mod_eq_of_lt HQ] at CN
      refine CN.mono ?_
      rintro e w13 ⟨rfl, rfl⟩
      clear CN
      rw [← HF.out]
      go_wp2_with fail
      go_ret
      exact ⟨rfl, hb6⟩
theorem floor_any (a b y : Nat) (w : World) (ha : a < 18446744073709551616) (hb : b < 18446744073709551616) (hy : y < 18446744073709551616) (h0 : 0 < y) (hs : a * b / y < 18446744073709551616) :
    Calls Tryz.prog 32 #[.int .u64 a, .int .u64 b, .int .u64 y] w fun e w' => e = .returned (.int .u64 (a * b / y : Nat)) ∧ Below w.heap.size w w' := by
  go_enter Tryz.func32, Tryz.ntmps32
  go_wp2_with fail
  refine (of_any a w ha).mono ?_
  rintro e w4 ⟨x1, rfl, hx1, h4⟩
  go_wp2_with fail
  refine (of_any b w4 hb).mono ?_
  rintro e w5 ⟨x2, rfl, hx2, h5⟩
  go_wp2_with fail
  refine (prod_any a b _ _ w5 ha hb (hx1.below h5) hx2).mono ?_
  rintro e w6 ⟨x3, rfl, hx3, h6⟩
  go_wp2_with fail
  refine (of_any y w6 hy).mono ?_
  rintro e w7 ⟨x4, rfl, hx4, h7⟩
  go_wp2_with fail
  refine (div_any (bitsOf (a * b)) (bitsOf y) _ _ w7 (by have := len_prod ha hb; omega) (by have := len64 hy; omega) (bin_bitsOf _) (bin_bitsOf _) (hx3.below h7) hx4 (by rw [val_bitsOf]; exact h0)).mono ?_
  rintro e w8 ⟨x5, x6, rfl, hx5, hx6, h8⟩
  rw [val_bitsOf, val_bitsOf] at hx5 hx6
  have hb4 : Below w.heap.size w w8 := by
    have s4 := h4.size; have s5 := h5.size; have s6 := h6.size; have s7 := h7.size
    exact (((h4.trans (h5.mono (by omega))).trans (h6.mono (by omega))).trans (h7.mono (by omega))).trans (h8.mono (by omega))
  clear h4 h5 h6 h7 h8 hx1 hx2 hx3 hx4 hx6
  have CN := Lib.hid (numb_small (a * b / y) _ w8 hs hx5)
  have HQ : Hid (∀ Q : Nat, Q = a * b / y → Ending.returned (.int .u64 Q) = Ending.returned (.int .u64 (a * b / y : Nat))) := Lib.hid (fun Q h => by rw [h])
  generalize hQ : a * b / y = Q at CN
  have HQ2 := Lib.hid hQ
  clear hQ hs hx5
  go_wp2_with fail
  refine CN.out.mono ?_
  rintro e w13 ⟨rfl, rfl⟩
  go_wp2_with fail
  go_ret
  exact ⟨HQ.out Q HQ2.out.symm, hb4⟩
end Go.Proofs.YtcbnmoghjhljbaaGreat
end
section
namespace Go.Proofs.YtcbnmoghjhljbaaGreat
open Go.RowKit Go.Proofs.Mem Go.Proofs.Bit
set_option linter.unusedVariables false
set_option linter.unusedSimpArgs false

def okB (k v : Int) (p : Bool) : Bool := decide (0 ≤ k ∧ k ≤ 1 ∧ 0 ≤ v ∧ v ≤ 1000000 ∧ (p = true → v ≤ 1000))
theorem okB_t {k v : Int} {p : Bool} (h : okB k v p = true) : 0 ≤ k ∧ k ≤ 1 ∧ 0 ≤ v ∧ v ≤ 1000000 ∧ (p = true → v ≤ 1000) := of_decide_eq_true h
theorem okB_f {k v : Int} {p : Bool} (h : okB k v p = false) : k < 0 ∨ (0 ≤ k ∧ 1 < k) ∨ (0 ≤ k ∧ k ≤ 1 ∧ v < 0) ∨ (0 ≤ k ∧ k ≤ 1 ∧ 0 ≤ v ∧ 1000000 < v) ∨ (0 ≤ k ∧ k ≤ 1 ∧ 0 ≤ v ∧ v ≤ 1000000 ∧ p = true ∧ 1000 < v) := by
  have h := of_decide_eq_false h
  cases p
  · simp at h ⊢
    omega
  · simp at h ⊢
    omega
theorem boxed {w w1 : World} {t : TypeId} {cs : Array Value} (h : Below (w.alloc (.cells cs t)).heap.size (w.alloc (.cells cs t)) w1) : Bk w1 w.heap.size t cs ∧ Below w.heap.size w w1 :=
  ⟨(Bk.new w t cs).below' h, ((Below.refl _ _).alloc (Nat.le_refl _) _).trans (h.mono (by simp))⟩
theorem check_t (k v : Int) (p : Bool) (w : World) (h : okB k v p = true) :
    Calls Tryz.prog 25 #[.agg #[.int .i64 k, .int .i64 v, .bool p]] w fun e w' => e = .returned (.int .i64 0) ∧ Below w.heap.size w w' := by
  obtain ⟨h1, h2, h3, h4, h5⟩ := okB_t h
  clear h
  cases p
  all_goals
    try have h6 := h5 rfl
    clear h5
    go_enter Tryz.func25, Tryz.ntmps25
    go_wp2
    go_ret
    exact ⟨rfl, (Below.refl _ _).alloc (Nat.le_refl _) _⟩
theorem check_f (k v : Int) (p : Bool) (w : World) (h : okB k v p = false) :
    Calls Tryz.prog 25 #[.agg #[.int .i64 k, .int .i64 v, .bool p]] w fun e w' => e = .returned (.int .i64 1) ∧ Below w.heap.size w w' := by
  rcases okB_f h with h1 | ⟨h1, h2⟩ | ⟨h1, h2, h3⟩ | ⟨h1, h2, h3, h4⟩ | ⟨h1, h2, h3, h4, rfl, h5⟩
  all_goals
    clear h
    try have h6 : 1000 < v := by omega
    first | cases p | skip
    all_goals
      go_enter Tryz.func25, Tryz.ntmps25
      go_wp2
      go_ret
      exact ⟨rfl, (Below.refl _ _).alloc (Nat.le_refl _) _⟩
theorem bright_t (k v : Int) (p : Bool) (w : World) (h : okB k v p = true) :
    Calls Tryz.prog 8 #[.agg #[.int .i64 k, .int .i64 v, .bool p]] w fun e w' => e = .returned (.bool true) ∧ Below w.heap.size w w' := by
  obtain ⟨h1, h2, h3, h4, h5⟩ := okB_t h
  clear h
  cases p
  all_goals
    try have h6 := h5 rfl
    clear h5
    go_enter Tryz.func8, Tryz.ntmps8
    go_wp2
    go_ret
    exact ⟨rfl, (Below.refl _ _).alloc (Nat.le_refl _) _⟩
theorem bright_f (k v : Int) (p : Bool) (w : World) (h : okB k v p = false) :
    Calls Tryz.prog 8 #[.agg #[.int .i64 k, .int .i64 v, .bool p]] w fun e w' => e = .returned (.bool false) ∧ Below w.heap.size w w' := by
  rcases okB_f h with h1 | ⟨h1, h2⟩ | ⟨h1, h2, h3⟩ | ⟨h1, h2, h3, h4⟩ | ⟨h1, h2, h3, h4, rfl, h5⟩
  all_goals
    clear h
    try have h6 : decide (v ≤ 1000) = false := decide_eq_false (by omega)
    go_enter Tryz.func8, Tryz.ntmps8
    go_wp2
    go_ret
    exact ⟨rfl, (Below.refl _ _).alloc (Nat.le_refl _) _⟩
def mustN (k v : Nat) (p : Bool) (r : Nat) : Nat := if k = 1 then r - (if p then mulDivN r v 1000 false else v) else (if p then mulDivN r v 1000 true else v)
theorem must_ok (k v : Nat) (p : Bool) (r : Nat) (w : World) (h : okB k v p = true) (hr : okR r = true) :
    Calls Tryz.prog 43 #[.agg #[.int .i64 k, .int .i64 v, .bool p], .int .i64 r] w fun e w' => e = .returned (.tuple #[.int .i64 (mustN k v p r), .int .i64 0]) ∧ Below w.heap.size w w' := by
  obtain ⟨h1, h2, h3, h4, h5⟩ := okB_t h
  obtain ⟨r1, r2⟩ := okR_t hr
  have C := Lib.hid (fun w1 => check_t k v p w1 h)
  have hv : okR v = true := by unfold okR; simp; omega
  have hk : k = 0 ∨ k = 1 := by omega
  have C1 := Lib.hid (fun up w1 => percent_ok r v up w1 hr hv)
  obtain ⟨n, hn⟩ : ∃ n, n = if p then mulDivN r v 1000 (k == 0) else v := ⟨_, rfl⟩
  have hn1 : (n : Int) ≤ 1000000 := by
    rw [hn]
    cases p
    · simpa using h4
    · have := mulDivN_le r v 1000 1000000 (k == 0) (by have := Nat.mul_le_mul (show r ≤ 1000000 by omega) (show v ≤ 1000 by have := h5 rfl; omega); omega) (by omega)
      simp; omega
  have hm : mustN k v p r = if k = 1 then r - n else n := by
    unfold mustN
    rcases hk with rfl | rfl <;> cases p <;> simp [hn]
  rw [hm]
  clear h h3 h4 h5 hv hr h1 h2 hm
  rcases hk with rfl | rfl
  · cases p
    · have hn := Lib.hid hn
      go_enter Tryz.func43, Tryz.ntmps43
      go_wp2_with (go_at_call 25; refine (C.out _).mono ?_; rintro e w1 ⟨rfl, hb1⟩; obtain ⟨hk, hb⟩ := boxed hb1; have c0 := hk.cell 0; have c1 := hk.cell 1; have c2 := hk.cell 2)
      go_ret2
      exact ⟨by simp [hn.out], hb⟩
    · replace hn : mulDivN r v 1000 true = n := by simpa using hn.symm
      have C1 := Lib.hid (C1.out true)
      rw [hn] at C1
      clear hn
      go_enter Tryz.func43, Tryz.ntmps43
      go_wp2_with (go_at_call 25; refine (C.out _).mono ?_; rintro e w1 ⟨rfl, hb1⟩; obtain ⟨hk, hb⟩ := boxed hb1; have c0 := hk.cell 0; have c1 := hk.cell 1; have c2 := hk.cell 2)
      refine (C1.out _).mono ?_
      rintro e w2 ⟨rfl, hb2⟩
      have hk2 := hk.below' hb2
      have d0 := hk2.cell 0
      go_wp2_with fail
      go_ret2
      exact ⟨rfl, hb.trans (hb2.mono hb.size)⟩
  · have hmax : max ((r : Int) - n) 0 = ((r - n : Nat) : Int) := by omega
    have hr0 : (r : Int) - n ≤ 1000000 := by omega
    have hr1 : -1000000 ≤ (r : Int) - n := by omega
    have hmax := Lib.hid hmax
    cases p
    · replace hn : n = v := by simpa using hn
      subst hn
      go_enter Tryz.func43, Tryz.ntmps43
      go_wp2_with (go_at_call 25; refine (C.out _).mono ?_; rintro e w1 ⟨rfl, hb1⟩; obtain ⟨hk, hb⟩ := boxed hb1; have c0 := hk.cell 0; have c1 := hk.cell 1; have c2 := hk.cell 2)
      go_ret2
      exact ⟨by first | rfl | exact ret_two hmax.out rfl, hb⟩
    · replace hn : mulDivN r v 1000 false = n := by simpa using hn.symm
      have C1 := Lib.hid (C1.out false)
      rw [hn] at C1
      clear hn
      go_enter Tryz.func43, Tryz.ntmps43
      go_wp2_with (go_at_call 25; refine (C.out _).mono ?_; rintro e w1 ⟨rfl, hb1⟩; obtain ⟨hk, hb⟩ := boxed hb1; have c0 := hk.cell 0; have c1 := hk.cell 1; have c2 := hk.cell 2)
      refine (C1.out _).mono ?_
      rintro e w2 ⟨rfl, hb2⟩
      have hk2 := hk.below' hb2
      have d0 := hk2.cell 0
      go_wp2_with fail
      go_ret2
      exact ⟨by first | rfl | exact ret_two hmax.out rfl, hb.trans (hb2.mono hb.size)⟩
theorem mustN_le {k v : Nat} {p : Bool} {r : Nat} (h : okB k v p = true) (hr : okR r = true) : mustN k v p r ≤ 1000000 := by
  obtain ⟨h1, h2, h3, h4, h5⟩ := okB_t h
  obtain ⟨r1, r2⟩ := okR_t hr
  have : ∀ up, p = true → mulDivN r v 1000 up ≤ 1000000 := fun up hp => mulDivN_le r v 1000 1000000 up (by have := Nat.mul_le_mul (show r ≤ 1000000 by omega) (show v ≤ 1000 by have := h5 hp; omega); omega) (by omega)
  unfold mustN
  cases p
  · split <;> simp <;> omega
  · have t := this true rfl
    split
    · omega
    · simpa using t
theorem room_ok (k v : Nat) (p : Bool) (r d : Nat) (w : World) (h1 : okB k v p = true) (h2 : okR r = true) (hd : d < 9223372036854775808) :
    Calls Tryz.prog 24 #[.agg #[.int .i64 k, .int .i64 v, .bool p], .int .i64 r, .int .i64 d] w fun e w' => e = .returned (.tuple #[.int .i64 (d - mustN k v p r : Nat), .int .i64 0]) ∧ Below w.heap.size w w' := by
  have hle := mustN_le h1 h2
  have C := Lib.hid (fun w1 => must_ok k v p r w1 h1 h2)
  generalize mustN k v p r = n at hle C ⊢
  have hmax : max ((d : Int) - n) 0 = ((d - n : Nat) : Int) := by omega
  have hmax := Lib.hid hmax
  have hr0 : (d : Int) - n ≤ 9223372036854775807 := by omega
  have hr1 : -1000000 ≤ (d : Int) - n := by omega
  clear h1 h2
  go_enter Tryz.func24, Tryz.ntmps24
  go_wp2_with (go_at_call 43; refine (C.out _).mono ?_; rintro e w1 ⟨rfl, hb1⟩; obtain ⟨hk, hb⟩ := boxed hb1)
  go_ret2
  exact ⟨by first | rfl | exact ret_two hmax.out rfl, hb⟩
theorem lives32_any (w : World) : Calls Tryz.prog 6 #[] w fun e w' => e = .returned (.bool true) ∧ Below w.heap.size w w' := by
  have C : Hid (∀ w, Calls Tryz.prog 24 #[.agg #[.int .i64 0, .int .i64 2, .bool false], .int .i64 3, .int .i64 3] w fun e w' => e = .returned (.tuple #[.int .i64 1, .int .i64 0]) ∧ Below w.heap.size w w') :=
    Lib.hid fun w => by simpa [mustN] using room_ok 0 2 false 3 3 w (by decide) (by decide) (by omega)
  go_enter Tryz.func6, Tryz.ntmps6
  go_wp2_with (go_at_call 24; refine (C.out _).mono ?_; rintro e w1 ⟨rfl, hb1⟩)
  go_ret
  exact ⟨rfl, hb1⟩
theorem lawmust_ok (k v : Nat) (p : Bool) (r : Nat) (w : World) (h : okB k v p = true) (hr : okR r = true) :
    Calls Tryz.prog 12 #[.agg #[.int .i64 k, .int .i64 v, .bool p], .int .i64 r] w fun e w' => e = .returned (.int .i64 (mustN k v p r)) ∧ Below w.heap.size w w' := by
  obtain ⟨h1, h2, h3, h4, h5⟩ := okB_t h
  obtain ⟨r1, r2⟩ := okR_t hr
  have hk : k = 0 ∨ k = 1 := by omega
  obtain ⟨n, hn⟩ : ∃ n, n = if p then mulDivN r v 1000 (k == 0) else v := ⟨_, rfl⟩
  have hn1 : (n : Int) ≤ 1000000 := by
    rw [hn]
    cases p
    · simpa using h4
    · have := mulDivN_le r v 1000 1000000 (k == 0) (by have := Nat.mul_le_mul (show r ≤ 1000000 by omega) (show v ≤ 1000 by have := h5 rfl; omega); omega) (by omega)
      simp; omega
  have hm : mustN k v p r = if k = 1 then r - n else n := by
    unfold mustN
    rcases hk with rfl | rfl <;> cases p <;> simp [hn]
  rw [hm]
  have C1 := Lib.hid (fun w1 => ceil_any r v 1000 1000000 w1 (by omega) (by omega) (by omega) (by omega) (by omega))
  have C2 : Hid (∀ w1, p = true → k = 1 → Calls Tryz.prog 32 #[.int .u64 r, .int .u64 v, .int .u64 (1000 : Nat)] w1 fun e w' => e = .returned (.int .u64 n) ∧ Below w1.heap.size w1 w') := Lib.hid (fun w1 hp hk1 => by
    have e : r * v / 1000 = n := by rw [hn, hk1]; simp [hp, mulDivN]
    rw [← e]
    exact floor_any r v 1000 w1 (by omega) (by omega) (by omega) (by omega) (by rw [e]; omega))
  clear h h5 hr h1 h2 hm
  have hnn : (0 : Int) ≤ n := by omega
  rcases hk with rfl | rfl
  · cases p
    · have hn := Lib.hid hn
      go_enter Tryz.func12, Tryz.ntmps12
      go_wp2
      go_ret
      exact ⟨by simp [hn.out], (Below.refl _ _).alloc (Nat.le_refl _) _⟩
    · replace hn : min (mulDivN r v 1000 true) 1000000 = n := by simp at hn; omega
      rw [hn] at C1
      clear hn
      go_enter Tryz.func12, Tryz.ntmps12
      go_wp2_with (go_at_call 31; refine (C1.out _).mono ?_; rintro e w1 ⟨rfl, hb1⟩; obtain ⟨hk, hb⟩ := boxed hb1; have c0 := hk.cell 0; have c1 := hk.cell 1; have c2 := hk.cell 2)
      go_ret
      exact ⟨rfl, hb⟩
  · by_cases hle : n ≤ r
    · have hsub : (r : Int) - n = ((r - n : Nat) : Int) := by omega
      have hs1 : (0:Int) ≤ ((r - n : Nat) : Int) := by omega
      have hs2 : ((r - n : Nat) : Int) ≤ 1000000 := by omega
      generalize r - n = d at hsub hs1 hs2 ⊢
      cases p
      · replace hn : n = v := by simpa using hn
        subst hn
        go_enter Tryz.func12, Tryz.ntmps12
        go_wp2
        go_ret
        exact ⟨by first | rfl | exact ret_int hsub, (Below.refl _ _).alloc (Nat.le_refl _) _⟩
      · clear hn
        have C2 := Lib.hid (fun w1 => C2.out w1 rfl rfl)
        go_enter Tryz.func12, Tryz.ntmps12
        go_wp2_with (go_at_call 32; refine (C2.out _).mono ?_; rintro e w1 ⟨rfl, hb1⟩; obtain ⟨hk, hb⟩ := boxed hb1; have c0 := hk.cell 0; have c1 := hk.cell 1; have c2 := hk.cell 2)
        go_ret
        exact ⟨by first | rfl | exact ret_int hsub, hb⟩
    · have hz : r - n = 0 := by omega
      rw [hz]
      have hgt : (r : Int) < n := by omega
      clear hz
      cases p
      · replace hn : n = v := by simpa using hn
        subst hn
        go_enter Tryz.func12, Tryz.ntmps12
        go_wp2
        go_ret
        exact ⟨rfl, (Below.refl _ _).alloc (Nat.le_refl _) _⟩
      · clear hn
        have C2 := Lib.hid (fun w1 => C2.out w1 rfl rfl)
        go_enter Tryz.func12, Tryz.ntmps12
        go_wp2_with (go_at_call 32; refine (C2.out _).mono ?_; rintro e w1 ⟨rfl, hb1⟩; obtain ⟨hk, hb⟩ := boxed hb1; have c0 := hk.cell 0; have c1 := hk.cell 1; have c2 := hk.cell 2)
        go_ret
        exact ⟨rfl, hb⟩
end Go.Proofs.YtcbnmoghjhljbaaGreat
end
section
namespace Go.Proofs.YtcbnmoghjhljbaaGreat
open Go.RowKit Go.Proofs.Mem
set_option linter.unusedVariables false
set_option linter.unusedSimpArgs false
def hasP (cl : List Ob) (k : Int) (P : Ob → Bool) (s : List UInt8) : Bool := cl.any fun o => decide (o.kind = k) && decide (o.name.data.toList = s) && P o
def cntP (cl : List Ob) (k : Int) (P : Ob → Bool) (j : Nat) : Nat := (((nms cl k).take j).filter (hasP cl k P)).length
section
variable {cl : List Ob} {k : Int} {P : Ob → Bool} {j : Nat}
theorem hasP_of (hu : (keys cl).Nodup) {o : Ob} (ho : o ∈ cl) (hk : o.kind = k) : hasP cl k P o.name.data.toList = P o := by
  unfold hasP
  cases ht : P o with
  | true =>
    rw [List.any_eq_true]
    exact ⟨o, ho, by simp [hk, ht]⟩
  | false =>
    rw [List.any_eq_false]
    intro x hx
    simp only [Bool.and_eq_true, decide_eq_true_eq, not_and, Bool.not_eq_true]
    rintro ⟨h1, h2⟩
    obtain ⟨i, hi, rfl⟩ := List.getElem_of_mem hx
    obtain ⟨j, hj, rfl⟩ := List.getElem_of_mem ho
    have := key_inj hu hi hj (by rw [h1, hk, bytes_inj h2])
    subst this
    exact ht
theorem cntP_next (hu : (keys cl).Nodup) {o : Ob} (ho : o ∈ cl) (hk : o.kind = k) (hn : (nms cl k)[j]? = some o.name.data.toList) : cntP cl k P (j + 1) = cntP cl k P j + (if P o then 1 else 0) := by
  unfold cntP
  obtain ⟨hlt, he⟩ := List.getElem?_eq_some_iff.1 hn
  rw [List.take_succ_eq_append_getElem hlt, List.filter_append, List.length_append, he, List.filter_cons, hasP_of hu ho hk]
  cases P o <;> simp
theorem cntP_zero : cntP cl k P 0 = 0 := by unfold cntP; simp
theorem nms_le : (nms cl k).length ≤ cl.length := by
  unfold nms
  rw [List.length_mergeSort, List.length_map]
  exact List.length_filter_le ..
theorem cntP_le : cntP cl k P j ≤ cl.length := by
  unfold cntP
  refine Nat.le_trans (List.length_filter_le ..) ?_
  rw [List.length_take]
  exact Nat.le_trans (Nat.min_le_right ..) nms_le
end
end Go.Proofs.YtcbnmoghjhljbaaGreat
end
section
namespace Go.Proofs.YtcbnmoghjhljbaaGreat
open Go.RowKit Go.Proofs.Mem
set_option linter.unusedVariables false
set_option linter.unusedSimpArgs false
def rdB (owner : ByteArray) (o : Ob) : Bool := decide (o.p.owner = owner) && decide (o.p.phase = 2)
def rdy (cl : List Ob) (owner : ByteArray) : Nat := cntP cl 1 (rdB owner) (nms cl 1).length
section
variable {cl : List Ob} {mu : Nat → Nat}
end
structure EvR (cl cl' : List Ob) (G : List (List UInt8)) : Prop where
  len : cl'.length = cl.length
  gone : ∀ i (h : i < cl.length) (h' : i < cl'.length), cl[i].kind = 1 → cl[i].name.data.toList ∈ G → cl'[i].kind = 1 ∧ cl'[i].name = cl[i].name ∧ cl'[i].p.phase = 0
  stay : ∀ i (h : i < cl.length) (h' : i < cl'.length), (cl[i].kind = 1 → cl[i].name.data.toList ∉ G) → nf cl'[i] = nf cl[i]
section
variable {cl cl' : List Ob} {G : List (List UInt8)}
end
end Go.Proofs.YtcbnmoghjhljbaaGreat
end
section
namespace Go.Proofs.YtcbnmoghjhljbaaGreat
open Go.RowKit Go.Proofs.Mem
set_option linter.unusedVariables false
set_option linter.unusedSimpArgs false
attribute [local go_sem] Oper.semAt_some
set_option maxRecDepth 100000 in
def rdF (s0 q2 : Nat) (f : Nat → Value) : Array Value := #[f 0, f 1, f 2, .pointer (some ⟨s0, 0, none⟩), f 4, .pointer (some ⟨s0 + 1, 0, none⟩), .pointer (some ⟨q2, 0, none⟩), f 7, f 8, f 9, f 10, f 11, f 12, f 13, f 14, f 15, f 16, f 17, f 18, f 19, f 20, f 21, f 22, f 23]
theorem tl_ne {a b : ByteArray} (h : a ≠ b) : (a.toList == b.toList) = false := by
  rw [ByteArray.toList_eq, ByteArray.toList_eq, beq_eq_false_iff_ne]
  exact fun e => h (bytes_inj e)
structure IsRd (w : World) (g : ByteArray) (cl : List Ob) (z : Nat) (pre : List Ob) (W : World) : Prop where
  bg : Bk W w.heap.size 9 #[.string g]
  bn : Bk W (w.heap.size + 1) 3 #[.int .i64 (cntP cl 1 (rdB g) pre.length)]
  low : Below w.heap.size w W
  zs : z ≤ W.heap.size
theorem IsRd.own {w : World} {g : ByteArray} {cl : List Ob} {z n₀ : Nat} (hn : w.heap.size + 2 ≤ n₀) : OwnFrom n₀ (IsRd w g cl z) := fun pre W W' row h hg hr =>
  have hr2 : ∀ r, row = some r → ∃ o : Obj, W.heap[r]? = some o ∧ o.isCells = false := fun r e => (hr r e).2
  { bg := bk_kept h.bg hg hr2
    bn := bk_kept h.bn hg hr2
    low := h.low.grown hg h.low.size fun r e => by have := (hr r e).1; omega
    zs := Nat.le_trans h.zs hg.size }
theorem IsRd.below {w W W' : World} {g : ByteArray} {cl : List Ob} {z : Nat} {pre : List Ob} (h : IsRd w g cl z pre W) (hb : Below W.heap.size W W') : IsRd w g cl z pre W' :=
  ⟨h.bg.below' hb, h.bn.below' hb, below_tr h.low hb, Nat.le_trans h.zs hb.size⟩
def IsRdAx (cl : List Ob) (s0 z : Nat) (pre : List Ob) (x : Ob) (a : Act) (W : World) : Prop :=
  ∃ q2 f, a = ⟨rdF s0 q2 f, []⟩ ∧ z ≤ q2 ∧ Bk W q2 56 x.cells.toArray ∧ KnL cl 1 pre x W
theorem isRdAx_intro {cl : List Ob} {s0 z : Nat} {pre : List Ob} {x : Ob} {W : World} (t : Array Value) (q2 : Nat) (h : t = rdF s0 q2 (fun i => t.getD i undef)) (hq : z ≤ q2) (hb : Bk W q2 56 x.cells.toArray) (hk : KnL cl 1 pre x W) : IsRdAx cl s0 z pre x ⟨t, []⟩ W :=
  ⟨q2, _, by rw [← h], hq, hb, hk⟩
theorem rdB_nf {x z : Ob} (h : nf x = nf z) (g : ByteArray) : rdB g x = rdB g z := by
  have hp : (nf x).p = (nf z).p := by rw [h]
  have e1 : x.p.owner = z.p.owner := (congrArg Pd.owner hp : (nf x).p.owner = (nf z).p.owner)
  have e2 : x.p.phase = z.p.phase := (congrArg Pd.phase hp : (nf x).p.phase = (nf z).p.phase)
  unfold rdB
  rw [e1, e2]
set_option maxHeartbeats 8000000 in
set_option maxRecDepth 100000 in
theorem ready_any {B : Nat} {w : World} {p b : Nat} {most : Int} {evs : List Ev} {cl : List Ob} (M : S8 B w p b most evs cl) (hcl : cl.length ≤ 100) (g : ByteArray) :
    Calls Tryz.prog 26 #[.pointer (some ⟨p, 0, none⟩), .string g] w fun e w' => e = .returned (.int .i64 (rdy cl g)) ∧ Below w.heap.size w w' := by
  have HM := Lib.hid (And.intro M (And.intro hcl trivial))
  clear M hcl
  refine (callsIn_wide (n := 7)).1 ?_
  refine callsIn_of_wp_marks Tryz.func26 rfl trivial ?_ rfl
  simp only [Tryz.ntmps26, List.size_toArray, List.length_cons, List.length_nil, Nat.reduceAdd, Nat.reduceSub, Array.replicate_succ, Array.replicate_zero, List.push_toArray, List.append_toArray, List.nil_append, List.cons_append]
  refine wpIn_seq ?_
  refine wpIn_wide.2 ?_
  refine wp_hide fun QA HQA => ?_
  go_wp2_with fail
  rw [HQA.out]
  simp only [Exit.then]
  clear HQA
  refine wpIn_seq ?_
  refine wpIn_wide.2 ?_
  refine wp_hide fun QB HQB => ?_
  go_wp2_with fail
  rw [HQB.out]
  simp only [Exit.then]
  clear HQB
  obtain ⟨W0, hW0⟩ : ∃ W0, W0 = (w.alloc (.cells #[.string g] 9)).alloc (.cells #[.int .i64 0] 3) := ⟨_, rfl⟩
  have s1 : Bk W0 w.heap.size 9 #[.string g] := by rw [hW0]; exact (Bk.new w 9 #[.string g]).alloc _
  have s2 : Bk W0 (w.heap.size + 1) 3 #[.int .i64 0] := by
    have h := Bk.new (w.alloc (.cells #[.string g] 9)) 3 #[.int .i64 0]
    rw [World.size_alloc] at h
    rw [hW0]
    exact h
  have s3 : Below w.heap.size w W0 := by
    rw [hW0]
    exact below_tr (below_al _ _) (below_al _ _)
  have s4 : W0.heap.size = w.heap.size + 2 := by rw [hW0]; simp
  rw [← hW0]
  have HZ0 := Lib.hid (And.intro s1 (And.intro s2 (And.intro s3 s4)))
  clear hW0 s1 s2 s3 s4
  refine wpIn_seq ?_
  refine wpIn_hide fun QF HQF => ?_
  refine wpIn_seq ?_
  refine wpIn_wide.2 ?_
  refine wp_hide fun QJ HQJ => ?_
  go_wp2_with fail
  refine (list_any p 1 W0).mono ?_
  rintro e V2 ⟨rfl, rfl⟩
  go_wp2_with fail
  rw [HQJ.out]
  simp only [Exit.then]
  clear HQJ
  refine wpIn_block ?_
  obtain ⟨WL, hWL⟩ : ∃ WL, WL = (W0.alloc (.cells #[.pointer (some ⟨p, 0, none⟩)] 26)).alloc (.cells #[.int .i64 1] 3) := ⟨_, rfl⟩
  have l1 := (Bk.new W0 26 #[.pointer (some ⟨p, 0, none⟩)]).alloc (.cells #[.int .i64 1] 3)
  have l2 := Bk.new (W0.alloc (.cells #[.pointer (some ⟨p, 0, none⟩)] 26)) 3 #[.int .i64 1]
  rw [World.size_alloc] at l2
  have lB : Below W0.heap.size W0 WL := by
    rw [hWL]
    exact below_tr (below_al _ _) (below_al _ _)
  have lz : WL.heap.size = W0.heap.size + 2 := by rw [hWL]; simp
  rw [← hWL] at l1 l2 ⊢
  clear hWL
  have HL1 := Lib.hid (And.intro l1 (And.intro l2 (And.intro lB lz)))
  clear l1 l2 lB lz
  have HBW : Below w.heap.size w WL := below_tr HZ0.out.2.2.1 HL1.out.2.2.1
  obtain ⟨n2, D2, ev2, st2, R2, hlow2, _, hcl2, hgood2⟩ := id HM.out.1
  have stL := st2.below HBW
  have hlz := HL1.out.2.2.2
  have hwz := HZ0.out.2.2.2
  have hp2 := st2.2.1.lt
  have hb2 := st2.2.2.1.lt
  have hcl9 := HM.out.2.1
  refine wpIn_rangeFunc_know (n := 7) rfl (by omega) (gf := 50) (lb := #[.pointer (some ⟨W0.heap.size, 0, none⟩), .pointer (some ⟨W0.heap.size + 1, 0, none⟩)]) rfl trivial (enters_of Tryz.func50 rfl rfl)
    (list_knows (p := p) (b := b) (n := n2) (D := D2) (F := fun j => j = w.heap.size + 1) (cl := cl) 6 (by omega) 1 ?hcl WL ?hp ?hmp ?hR ?hbs ?hbk ?hF) KeepL.trans ?hKb (Below.refl _ _) (fun _ => rfl)
    (IsRd w g cl WL.heap.size) (fun _ _ _ => False) ?hI (fun _ _ _ _ _ hs _ _ => hs) ?h0 (IsRdAx cl w.heap.size WL.heap.size) ?hAx ?assign ?body ?done ?stop
  case hcl => omega
  case hp => exact stL.cells.2.1
  case hmp => exact stL.2.2.1
  case hR => exact {
    size := R2.size
    at1 := fun x hx => by
      obtain ⟨h1, y, h2, h3, h4⟩ := R2.at1 x hx
      exact ⟨h1, y, h2, safe_less (safe_old h3.ok HBW) (fun j hj => by have h5 : j = w.heap.size + 1 := hj; omega), h4⟩
    at0 := R2.at0
    ok := R2.ok
    uniq := R2.uniq }
  case hbs => exact HL1.out.1.cell 0
  case hbk => exact HL1.out.2.1.cell 0
  case hF => exact ⟨by omega, by omega, by omega, by omega⟩
  case hKb => exact fun W l o o' hl ho hc hw => KeepL.put W l o o' hl ho hc hw
  case hI => exact IsRd.own (by omega)
  case h0 => exact ⟨HZ0.out.1.below' HL1.out.2.2.1, by
    have h := HZ0.out.2.1.below' HL1.out.2.2.1
    have e : cntP cl 1 (rdB g) ([] : List Ob).length = 0 := cntP_zero
    rw [e]
    exact h, HBW, Nat.le_refl _⟩
  case hAx =>
    rintro pre x a' s A A' row ⟨q', f', e, hq', hb', z, hz, k1, k2, k3, ho⟩ hg hr
    have hr2 : ∀ r, row = some r → ∃ o : Obj, A.heap[r]? = some o ∧ o.isCells = false := fun r e => (hr r e).2
    exact ⟨q', f', e, hq', bk_kept hb' hg hr2, z, hz, k1, k2, k3, ok_kept ho hg hr2⟩
  case assign =>
    intro l pre x A K hA hKn hK
    have h47 : Is47 x.cells.toArray := cells_is x (by obtain ⟨z, hz, h1, h2, h3, h4⟩ := hKn; exact h4)
    have kz := Bk.new A 56 Z47
    refine wpIn_region_lit ?_
    refine wplI_run (fun _ => trivial) (fun ev => Oper.semAt_some _ _ _ (by intro c h; cases h)) rfl (run_alloc47 rfl _) ?_
    refine wplI_storeg (cs := x.cells.toArray) (fun _ => trivial) (fun ev => Oper.semAt_some _ _ _ (by intro c h; cases h)) kz (by rw [h47.1]; rfl) rfl rfl 56 (.tmp 6) (.tmp 9) rfl (by kernel_rfl) (by kernel_rfl) (info47 h47) h47.2 ?_
    have k2 := setCells_whole kz (show Z47.size = x.cells.toArray.size by rw [h47.1]; rfl)
    have b2 : Below A.heap.size A ((A.alloc (.cells Z47 56)).setCells A.heap.size 0 x.cells.toArray.toList) := below_setCells (g := A.heap.size) x.cells.toArray.toList 0 (below_al A _) (Nat.le_refl _)
    have hzs := hA.zs
    exact hK _ _ ⟨b2.size, fun j o _ hj _ => (b2.block j (Array.getElem?_eq_some_iff.1 hj).1).trans hj⟩ (KeepL.of_below b2 (by omega)) (hA.below b2) (isRdAx_intro _ A.heap.size (by kernel_rfl) hzs k2 (hKn.below b2))
  case body =>
    rintro l pre x _ A hl hlo hA ⟨q2, f', rfl, hq2, hbq, hKn⟩
    unfold rdF
    obtain ⟨z, hz, hzk, hzn, hnf, hok⟩ := id hKn
    have hnext := cntP_next (P := rdB g) R2.uniq hz hzk hzn
    rw [← rdB_nf hnf g] at hnext
    have e3 := hA.bg.cell 0
    have e5 := hA.bn.cell 0
    have f5 := hA.bn.frozen 0
    have eo : A.cell? ⟨q2, 10, none⟩ = some (.string x.p.owner) := hbq.cell 10
    have ep : A.cell? ⟨q2, 12, none⟩ = some (.int .i64 x.p.phase) := hbq.cell 12
    have hcle : cntP cl 1 (rdB g) pre.length ≤ cl.length := cntP_le
    obtain ⟨C, hC⟩ : ∃ C, C = cntP cl 1 (rdB g) pre.length := ⟨_, rfl⟩
    rw [← hC] at e5 hnext hcle
    obtain ⟨po, hpo⟩ : ∃ po, po = x.p.owner := ⟨_, rfl⟩
    obtain ⟨ph, hph0⟩ : ∃ ph, ph = x.p.phase := ⟨_, rfl⟩
    rw [← hpo] at eo
    rw [← hph0] at ep
    have hrd : rdB g x = (decide (po = g) && decide (ph = 2)) := by rw [hpo, hph0]; rfl
    rw [hrd] at hnext
    have hpl : (pre ++ [x]).length = pre.length + 1 := by simp
    have fin1 : (decide (po = g) && decide (ph = 2)) = true → IsRd w g cl WL.heap.size (pre ++ [x]) (A.setCell ⟨w.heap.size + 1, 0, none⟩ (.int .i64 ((C + 1 : Nat) : Int))) ∧ KeepsFrom WL.heap.size A (A.setCell ⟨w.heap.size + 1, 0, none⟩ (.int .i64 ((C + 1 : Nat) : Int))) ∧ KeepL WL.heap.size (fun j => j = w.heap.size + 1) A (A.setCell ⟨w.heap.size + 1, 0, none⟩ (.int .i64 ((C + 1 : Nat) : Int))) := fun he => by
      have hgb : ∀ i, i ≠ w.heap.size + 1 → (A.setCell ⟨w.heap.size + 1, 0, none⟩ (.int .i64 ((C + 1 : Nat) : Int))).heap[i]? = A.heap[i]? := fun i hn => Below.heap_setCell A ⟨w.heap.size + 1, 0, none⟩ _ i hn
      have hsz : (A.setCell ⟨w.heap.size + 1, 0, none⟩ (.int .i64 ((C + 1 : Nat) : Int))).heap.size = A.heap.size := by simp [World.setCell]
      refine ⟨⟨hA.bg.far (by simp) _, ?_, hA.low.setCell (by simp) _, by rw [hsz]; exact hA.zs⟩, ⟨by rw [hsz]; exact Nat.le_refl _, fun i o hi ho _ => (hgb i (by omega)).trans ho⟩, ⟨rfl, rfl, rfl, by rw [hsz]; exact Nat.le_refl _, fun i hi hf => hgb i hf, fun i o hi ho _ => (hgb i (by omega)).trans ho⟩⟩
      rw [hpl, hnext, if_pos he]
      exact hA.bn.set 0 _
    have fin0 : (decide (po = g) && decide (ph = 2)) = false → IsRd w g cl WL.heap.size (pre ++ [x]) A := fun he => by
      refine ⟨hA.bg, ?_, hA.low, hA.zs⟩
      rw [hpl, hnext, if_neg (by rw [he]; simp), hC]
      exact hA.bn
    have hw9 : wrap64 ((C : Int) + 1) = ((C + 1 : Nat) : Int) := by
      rw [IntWalk.wrap64_in _ (by omega)]
      omega
    have hzs := hA.zs
    have HX := Lib.hid (And.intro hA (And.intro hl (And.intro hlo (And.intro fin1 (And.intro fin0 (And.intro hzs hw9))))))
    clear hz hzk hzn hnf hok hnext hcle hC hpo hph0 hrd hpl fin1 fin0 hA hbq hl hlo hKn hzs hw9 hlz hwz
    have HK : Hid (KeepsFrom WL.heap.size A A ∧ KeepL WL.heap.size (fun j => j = w.heap.size + 1) A A) := Lib.hid ⟨KeepsFrom.refl _ _, KeepL.of_below (Below.refl _ _) HX.out.2.2.2.2.2.1⟩
    by_cases h1 : po = g
    · subst h1
      cases hph : ph == 2 with
      | true =>
        have he : (decide (po = po) && decide (ph = 2)) = true := by
          have : ph = 2 := by simpa using hph
          simp [this]
        have HF := Lib.hid (HX.out.2.2.2.1 he)
        clear he
        gi_wp2_with fail
        rw [HX.out.2.2.2.2.2.2]
        exact ⟨HF.out.2.1, HF.out.2.2, HF.out.1⟩
      | false =>
        have he : (decide (po = po) && decide (ph = 2)) = false := by
          have : ph ≠ 2 := by simpa using hph
          simp [this]
        have HF := Lib.hid (HX.out.2.2.2.2.1 he)
        clear he
        gi_wp2_with fail
        exact ⟨HK.out.1, HK.out.2, HF.out⟩
    · have hn1 := tl_ne h1
      have he : (decide (po = g) && decide (ph = 2)) = false := by simp [h1]
      have HF := Lib.hid (HX.out.2.2.2.2.1 he)
      clear he h1
      gi_wp2_with fail
      exact ⟨HK.out.1, HK.out.2, HF.out⟩
  case done =>
    intro D9 xs A hD hxs hA hmD
    show QF .normal _ A
    rw [HQF.out]
    simp only [Exit.then]
    have hlx : xs.length = (nms cl 1).length := hxs
    have hbn := hA.bn
    rw [hlx] at hbn
    rw [show cntP cl 1 (rdB g) (nms cl 1).length = rdy cl g from rfl] at hbn
    have e5 := hbn.cell 0
    have HA9 := Lib.hid (And.intro hA.low (And.intro hmD hD))
    clear hA hmD hD hlx hxs hbn
    gi_wp2_with fail
    refine marks_leave [D9] A (by simp) (fun D hD => by rw [List.mem_singleton.1 hD]; exact HA9.out.2.1) fun w' a1 a2 a3 a4 a5 => ?_
    have hDge := HA9.out.2.2
    refine ⟨.int .i64 (rdy cl g), ?_, rfl, ⟨a1.trans HA9.out.1.os, a2.trans HA9.out.1.tape, a3.trans HA9.out.1.output, by rw [a4]; exact HA9.out.1.size, fun i hi => (a5 i (by simp; omega)).trans (HA9.out.1.block i hi)⟩⟩
    simp [results, Tryz.results26, go_sem]
  case stop =>
    rintro D c pre A _ h _
    exact h.elim
set_option maxHeartbeats 8000000 in
set_option maxRecDepth 100000 in
theorem lready_any {B : Nat} {w : World} {p b : Nat} {most : Int} {evs : List Ev} {cl : List Ob} (M : S8 B w p b most evs cl) (hcl : cl.length ≤ 100) (g : ByteArray) :
    Calls Tryz.prog 11 #[.pointer (some ⟨p, 0, none⟩), .string g] w fun e w' => e = .returned (.int .i64 (rdy cl g)) ∧ Below w.heap.size w w' := by
  have HM := Lib.hid (And.intro M (And.intro hcl trivial))
  clear M hcl
  refine (callsIn_wide (n := 7)).1 ?_
  refine callsIn_of_wp_marks Tryz.func11 rfl trivial ?_ rfl
  simp only [Tryz.ntmps11, List.size_toArray, List.length_cons, List.length_nil, Nat.reduceAdd, Nat.reduceSub, Array.replicate_succ, Array.replicate_zero, List.push_toArray, List.append_toArray, List.nil_append, List.cons_append]
  refine wpIn_seq ?_
  refine wpIn_wide.2 ?_
  refine wp_hide fun QA HQA => ?_
  go_wp2_with fail
  rw [HQA.out]
  simp only [Exit.then]
  clear HQA
  refine wpIn_seq ?_
  refine wpIn_wide.2 ?_
  refine wp_hide fun QB HQB => ?_
  go_wp2_with fail
  rw [HQB.out]
  simp only [Exit.then]
  clear HQB
  obtain ⟨W0, hW0⟩ : ∃ W0, W0 = (w.alloc (.cells #[.string g] 9)).alloc (.cells #[.int .i64 0] 3) := ⟨_, rfl⟩
  have s1 : Bk W0 w.heap.size 9 #[.string g] := by rw [hW0]; exact (Bk.new w 9 #[.string g]).alloc _
  have s2 : Bk W0 (w.heap.size + 1) 3 #[.int .i64 0] := by
    have h := Bk.new (w.alloc (.cells #[.string g] 9)) 3 #[.int .i64 0]
    rw [World.size_alloc] at h
    rw [hW0]
    exact h
  have s3 : Below w.heap.size w W0 := by
    rw [hW0]
    exact below_tr (below_al _ _) (below_al _ _)
  have s4 : W0.heap.size = w.heap.size + 2 := by rw [hW0]; simp
  rw [← hW0]
  have HZ0 := Lib.hid (And.intro s1 (And.intro s2 (And.intro s3 s4)))
  clear hW0 s1 s2 s3 s4
  refine wpIn_seq ?_
  refine wpIn_hide fun QF HQF => ?_
  refine wpIn_seq ?_
  refine wpIn_wide.2 ?_
  refine wp_hide fun QJ HQJ => ?_
  go_wp2_with fail
  refine (list_any p 1 W0).mono ?_
  rintro e V2 ⟨rfl, rfl⟩
  go_wp2_with fail
  rw [HQJ.out]
  simp only [Exit.then]
  clear HQJ
  refine wpIn_block ?_
  obtain ⟨WL, hWL⟩ : ∃ WL, WL = (W0.alloc (.cells #[.pointer (some ⟨p, 0, none⟩)] 26)).alloc (.cells #[.int .i64 1] 3) := ⟨_, rfl⟩
  have l1 := (Bk.new W0 26 #[.pointer (some ⟨p, 0, none⟩)]).alloc (.cells #[.int .i64 1] 3)
  have l2 := Bk.new (W0.alloc (.cells #[.pointer (some ⟨p, 0, none⟩)] 26)) 3 #[.int .i64 1]
  rw [World.size_alloc] at l2
  have lB : Below W0.heap.size W0 WL := by
    rw [hWL]
    exact below_tr (below_al _ _) (below_al _ _)
  have lz : WL.heap.size = W0.heap.size + 2 := by rw [hWL]; simp
  rw [← hWL] at l1 l2 ⊢
  clear hWL
  have HL1 := Lib.hid (And.intro l1 (And.intro l2 (And.intro lB lz)))
  clear l1 l2 lB lz
  have HBW : Below w.heap.size w WL := below_tr HZ0.out.2.2.1 HL1.out.2.2.1
  obtain ⟨n2, D2, ev2, st2, R2, hlow2, _, hcl2, hgood2⟩ := id HM.out.1
  have stL := st2.below HBW
  have hlz := HL1.out.2.2.2
  have hwz := HZ0.out.2.2.2
  have hp2 := st2.2.1.lt
  have hb2 := st2.2.2.1.lt
  have hcl9 := HM.out.2.1
  refine wpIn_rangeFunc_know (n := 7) rfl (by omega) (gf := 50) (lb := #[.pointer (some ⟨W0.heap.size, 0, none⟩), .pointer (some ⟨W0.heap.size + 1, 0, none⟩)]) rfl trivial (enters_of Tryz.func50 rfl rfl)
    (list_knows (p := p) (b := b) (n := n2) (D := D2) (F := fun j => j = w.heap.size + 1) (cl := cl) 6 (by omega) 1 ?hcl WL ?hp ?hmp ?hR ?hbs ?hbk ?hF) KeepL.trans ?hKb (Below.refl _ _) (fun _ => rfl)
    (IsRd w g cl WL.heap.size) (fun _ _ _ => False) ?hI (fun _ _ _ _ _ hs _ _ => hs) ?h0 (IsRdAx cl w.heap.size WL.heap.size) ?hAx ?assign ?body ?done ?stop
  case hcl => omega
  case hp => exact stL.cells.2.1
  case hmp => exact stL.2.2.1
  case hR => exact {
    size := R2.size
    at1 := fun x hx => by
      obtain ⟨h1, y, h2, h3, h4⟩ := R2.at1 x hx
      exact ⟨h1, y, h2, safe_less (safe_old h3.ok HBW) (fun j hj => by have h5 : j = w.heap.size + 1 := hj; omega), h4⟩
    at0 := R2.at0
    ok := R2.ok
    uniq := R2.uniq }
  case hbs => exact HL1.out.1.cell 0
  case hbk => exact HL1.out.2.1.cell 0
  case hF => exact ⟨by omega, by omega, by omega, by omega⟩
  case hKb => exact fun W l o o' hl ho hc hw => KeepL.put W l o o' hl ho hc hw
  case hI => exact IsRd.own (by omega)
  case h0 => exact ⟨HZ0.out.1.below' HL1.out.2.2.1, by
    have h := HZ0.out.2.1.below' HL1.out.2.2.1
    have e : cntP cl 1 (rdB g) ([] : List Ob).length = 0 := cntP_zero
    rw [e]
    exact h, HBW, Nat.le_refl _⟩
  case hAx =>
    rintro pre x a' s A A' row ⟨q', f', e, hq', hb', z, hz, k1, k2, k3, ho⟩ hg hr
    have hr2 : ∀ r, row = some r → ∃ o : Obj, A.heap[r]? = some o ∧ o.isCells = false := fun r e => (hr r e).2
    exact ⟨q', f', e, hq', bk_kept hb' hg hr2, z, hz, k1, k2, k3, ok_kept ho hg hr2⟩
  case assign =>
    intro l pre x A K hA hKn hK
    have h47 : Is47 x.cells.toArray := cells_is x (by obtain ⟨z, hz, h1, h2, h3, h4⟩ := hKn; exact h4)
    have kz := Bk.new A 56 Z47
    refine wpIn_region_lit ?_
    refine wplI_run (fun _ => trivial) (fun ev => Oper.semAt_some _ _ _ (by intro c h; cases h)) rfl (run_alloc47 rfl _) ?_
    refine wplI_storeg (cs := x.cells.toArray) (fun _ => trivial) (fun ev => Oper.semAt_some _ _ _ (by intro c h; cases h)) kz (by rw [h47.1]; rfl) rfl rfl 56 (.tmp 6) (.tmp 9) rfl (by kernel_rfl) (by kernel_rfl) (info47 h47) h47.2 ?_
    have k2 := setCells_whole kz (show Z47.size = x.cells.toArray.size by rw [h47.1]; rfl)
    have b2 : Below A.heap.size A ((A.alloc (.cells Z47 56)).setCells A.heap.size 0 x.cells.toArray.toList) := below_setCells (g := A.heap.size) x.cells.toArray.toList 0 (below_al A _) (Nat.le_refl _)
    have hzs := hA.zs
    exact hK _ _ ⟨b2.size, fun j o _ hj _ => (b2.block j (Array.getElem?_eq_some_iff.1 hj).1).trans hj⟩ (KeepL.of_below b2 (by omega)) (hA.below b2) (isRdAx_intro _ A.heap.size (by kernel_rfl) hzs k2 (hKn.below b2))
  case body =>
    rintro l pre x _ A hl hlo hA ⟨q2, f', rfl, hq2, hbq, hKn⟩
    unfold rdF
    obtain ⟨z, hz, hzk, hzn, hnf, hok⟩ := id hKn
    have hnext := cntP_next (P := rdB g) R2.uniq hz hzk hzn
    rw [← rdB_nf hnf g] at hnext
    have e3 := hA.bg.cell 0
    have e5 := hA.bn.cell 0
    have f5 := hA.bn.frozen 0
    have eo : A.cell? ⟨q2, 10, none⟩ = some (.string x.p.owner) := hbq.cell 10
    have ep : A.cell? ⟨q2, 12, none⟩ = some (.int .i64 x.p.phase) := hbq.cell 12
    have hcle : cntP cl 1 (rdB g) pre.length ≤ cl.length := cntP_le
    obtain ⟨C, hC⟩ : ∃ C, C = cntP cl 1 (rdB g) pre.length := ⟨_, rfl⟩
    rw [← hC] at e5 hnext hcle
    obtain ⟨po, hpo⟩ : ∃ po, po = x.p.owner := ⟨_, rfl⟩
    obtain ⟨ph, hph0⟩ : ∃ ph, ph = x.p.phase := ⟨_, rfl⟩
    rw [← hpo] at eo
    rw [← hph0] at ep
    have hrd : rdB g x = (decide (po = g) && decide (ph = 2)) := by rw [hpo, hph0]; rfl
    rw [hrd] at hnext
    have hpl : (pre ++ [x]).length = pre.length + 1 := by simp
    have fin1 : (decide (po = g) && decide (ph = 2)) = true → IsRd w g cl WL.heap.size (pre ++ [x]) (A.setCell ⟨w.heap.size + 1, 0, none⟩ (.int .i64 ((C + 1 : Nat) : Int))) ∧ KeepsFrom WL.heap.size A (A.setCell ⟨w.heap.size + 1, 0, none⟩ (.int .i64 ((C + 1 : Nat) : Int))) ∧ KeepL WL.heap.size (fun j => j = w.heap.size + 1) A (A.setCell ⟨w.heap.size + 1, 0, none⟩ (.int .i64 ((C + 1 : Nat) : Int))) := fun he => by
      have hgb : ∀ i, i ≠ w.heap.size + 1 → (A.setCell ⟨w.heap.size + 1, 0, none⟩ (.int .i64 ((C + 1 : Nat) : Int))).heap[i]? = A.heap[i]? := fun i hn => Below.heap_setCell A ⟨w.heap.size + 1, 0, none⟩ _ i hn
      have hsz : (A.setCell ⟨w.heap.size + 1, 0, none⟩ (.int .i64 ((C + 1 : Nat) : Int))).heap.size = A.heap.size := by simp [World.setCell]
      refine ⟨⟨hA.bg.far (by simp) _, ?_, hA.low.setCell (by simp) _, by rw [hsz]; exact hA.zs⟩, ⟨by rw [hsz]; exact Nat.le_refl _, fun i o hi ho _ => (hgb i (by omega)).trans ho⟩, ⟨rfl, rfl, rfl, by rw [hsz]; exact Nat.le_refl _, fun i hi hf => hgb i hf, fun i o hi ho _ => (hgb i (by omega)).trans ho⟩⟩
      rw [hpl, hnext, if_pos he]
      exact hA.bn.set 0 _
    have fin0 : (decide (po = g) && decide (ph = 2)) = false → IsRd w g cl WL.heap.size (pre ++ [x]) A := fun he => by
      refine ⟨hA.bg, ?_, hA.low, hA.zs⟩
      rw [hpl, hnext, if_neg (by rw [he]; simp), hC]
      exact hA.bn
    have hw9 : wrap64 ((C : Int) + 1) = ((C + 1 : Nat) : Int) := by
      rw [IntWalk.wrap64_in _ (by omega)]
      omega
    have hzs := hA.zs
    have HX := Lib.hid (And.intro hA (And.intro hl (And.intro hlo (And.intro fin1 (And.intro fin0 (And.intro hzs hw9))))))
    clear hz hzk hzn hnf hok hnext hcle hC hpo hph0 hrd hpl fin1 fin0 hA hbq hl hlo hKn hzs hw9 hlz hwz
    have HK : Hid (KeepsFrom WL.heap.size A A ∧ KeepL WL.heap.size (fun j => j = w.heap.size + 1) A A) := Lib.hid ⟨KeepsFrom.refl _ _, KeepL.of_below (Below.refl _ _) HX.out.2.2.2.2.2.1⟩
    by_cases h1 : po = g
    · subst h1
      cases hph : ph == 2 with
      | true =>
        have he : (decide (po = po) && decide (ph = 2)) = true := by
          have : ph = 2 := by simpa using hph
          simp [this]
        have HF := Lib.hid (HX.out.2.2.2.1 he)
        clear he
        gi_wp2_with fail
        rw [HX.out.2.2.2.2.2.2]
        exact ⟨HF.out.2.1, HF.out.2.2, HF.out.1⟩
      | false =>
        have he : (decide (po = po) && decide (ph = 2)) = false := by
          have : ph ≠ 2 := by simpa using hph
          simp [this]
        have HF := Lib.hid (HX.out.2.2.2.2.1 he)
        clear he
        gi_wp2_with fail
        exact ⟨HK.out.1, HK.out.2, HF.out⟩
    · have hn1 := tl_ne h1
      have he : (decide (po = g) && decide (ph = 2)) = false := by simp [h1]
      have HF := Lib.hid (HX.out.2.2.2.2.1 he)
      clear he h1
      gi_wp2_with fail
      exact ⟨HK.out.1, HK.out.2, HF.out⟩
  case done =>
    intro D9 xs A hD hxs hA hmD
    show QF .normal _ A
    rw [HQF.out]
    simp only [Exit.then]
    have hlx : xs.length = (nms cl 1).length := hxs
    have hbn := hA.bn
    rw [hlx] at hbn
    rw [show cntP cl 1 (rdB g) (nms cl 1).length = rdy cl g from rfl] at hbn
    have e5 := hbn.cell 0
    have HA9 := Lib.hid (And.intro hA.low (And.intro hmD hD))
    clear hA hmD hD hlx hxs hbn
    gi_wp2_with fail
    refine marks_leave [D9] A (by simp) (fun D hD => by rw [List.mem_singleton.1 hD]; exact HA9.out.2.1) fun w' a1 a2 a3 a4 a5 => ?_
    have hDge := HA9.out.2.2
    refine ⟨.int .i64 (rdy cl g), ?_, rfl, ⟨a1.trans HA9.out.1.os, a2.trans HA9.out.1.tape, a3.trans HA9.out.1.output, by rw [a4]; exact HA9.out.1.size, fun i hi => (a5 i (by simp; omega)).trans (HA9.out.1.block i hi)⟩⟩
    simp [results, Tryz.results11, go_sem]
  case stop =>
    rintro D c pre A _ h _
    exact h.elim
end Go.Proofs.YtcbnmoghjhljbaaGreat
end
section
namespace Go.Proofs.YtcbnmoghjhljbaaGreat
open Go.RowKit Go.Proofs.Mem
set_option linter.unusedVariables false
set_option linter.unusedSimpArgs false
theorem sright_any (p : Nat) (now : Int) (w : World) (hn : 0 ≤ now ∧ now ≤ 4611686018427387904) : Calls Tryz.prog 33 #[.pointer (some ⟨p, 0, none⟩), .int .i64 now] w fun e w' => e = .returned (.bool true) ∧ w = w' := by
  obtain ⟨h1, h2⟩ := hn
  go_enter Tryz.func33, Tryz.ntmps33
  go_wp2_with fail
  go_ret
  exact ⟨rfl, rfl⟩
theorem son_any (p : Pd) (w : World) : Calls Tryz.prog 34 #[.agg p.cells.toArray] w fun e w' => e = .returned (.bool (decide (p.phase = 1) || decide (p.phase = 2))) ∧ Below w.heap.size w w' := by
  obtain ⟨owner, node, phase, since, cpu, mem, labels, select, tolerate, warm⟩ := p
  simp only [Pd.cells]
  have hB := below_al w (.cells #[.string owner, .string node, .int .i64 phase, .int .i64 since, .int .i64 cpu, .int .i64 mem, labels.v, select.v, tolerate.v, .int .i64 warm] 43)
  cases h1 : phase == 1 with
  | true =>
    have e : decide (phase = 1) = true := by simpa using h1
    rw [e]
    go_enter Tryz.func34, Tryz.ntmps34
    go_wp2_with fail
    go_ret
    exact ⟨rfl, hB⟩
  | false =>
    have e : decide (phase = 1) = false := by simpa using h1
    rw [e]
    have e2 : decide (phase = 2) = (phase == 2) := by
      cases h2 : phase == 2
      · simpa using h2
      · simpa using h2
    rw [e2]
    go_enter Tryz.func34, Tryz.ntmps34
    go_wp2_with fail
    go_ret
    exact ⟨by simp, hB⟩
def evOb (now : Int) (o : Ob) : Ob := ⟨o.kind, o.name, o.version, o.w, { o.p with node := ⟨#[]⟩, phase := 0, since := now }, o.n, o.g, o.h⟩
theorem evOb_nf {x y : Ob} (now : Int) (h : nf x = nf y) : nf (evOb now x) = nf (evOb now y) := by
  have e : ∀ o : Ob, nf (evOb now o) = ⟨(nf o).kind, (nf o).name, (nf o).version, (nf o).w, { (nf o).p with node := ⟨#[]⟩, phase := 0, since := now }, (nf o).n, (nf o).g, (nf o).h⟩ := fun o => rfl
  rw [e, e, h]
theorem ev_err {now : Int} {o : Ob} (hn : 0 ≤ now ∧ now ≤ 4611686018427387904) (hk : o.kind = 1) (h : errO o = 0) : errO (evOb now o) = 0 := by
  obtain ⟨h1, h2⟩ := pod_may hk h
  refine pod_err (o := evOb now o) hk h1 ?_
  have e : emptyB (evOb now o) = emptyB o := by
    unfold emptyB emAll
    have : (evOb now o).kind = 1 := hk
    simp only [this, hk]
    simp only [show ((1 : Int) == 1) = true from rfl, Bool.or_true]
    rfl
  rw [e]
  unfold mayP mayP1 at h2 ⊢
  simp only [Bool.and_eq_true, decide_eq_true_eq] at h2 ⊢
  obtain ⟨⟨⟨⟨⟨⟨⟨⟨he, ho⟩, _⟩, _⟩, _⟩, _⟩, _⟩, hwa⟩, _⟩ := h2
  exact ⟨⟨⟨⟨⟨⟨⟨⟨he, ho⟩, by
    show (strE (⟨#[]⟩ : ByteArray) || nmB (⟨#[]⟩ : ByteArray)) = true
    decide +kernel⟩, by show (0 : Int) ≤ 0; omega⟩, by show (0 : Int) ≤ 3; omega⟩, hn.1⟩, hn.2⟩, hwa⟩, by
    show (((0 : Int) == 3) || (((0 : Int) == 0) == strE (⟨#[]⟩ : ByteArray))) = true
    decide +kernel⟩
end Go.Proofs.YtcbnmoghjhljbaaGreat
end
section
namespace Go.Proofs.YtcbnmoghjhljbaaGreat
open Go.RowKit Go.Proofs.Mem
open Go.Maps (Keyed string_keyed)
open Go.WideMaps (keyOf_string_mk)
set_option linter.unusedVariables false
set_option linter.unusedSimpArgs false
theorem strKb : Keyed Tryz.prog 9 := string_keyed Tryz.underlying9
end Go.Proofs.YtcbnmoghjhljbaaGreat
end
section
namespace Go.Proofs.YtcbnmoghjhljbaaGreat
open Go.RowKit Go.Proofs.Mem
open Go.Maps (Keyed string_keyed)
set_option linter.unusedVariables false
set_option linter.unusedSimpArgs false
theorem wl_may {o : Ob} (hk : o.kind = 0) (h : errO o = 0) : okR o.w.replicas = true := by
  unfold errO at h
  rw [if_pos (by omega)] at h
  unfold mayO at h
  rw [if_pos hk] at h
  unfold errN at h
  have h2 : mayW (emptyB o) o.w = true := by
    cases h1 : nmB o.name <;> cases h2 : mayW (emptyB o) o.w <;> simp [h1, h2] at h ⊢
  unfold mayW at h2
  simp only [Bool.and_eq_true, decide_eq_true_eq] at h2
  exact decide_eq_true ⟨h2.1.1.2, h2.1.2⟩
section
variable {cl : List Ob} {mu : Nat → Nat} {G : List (List UInt8)} {s : List UInt8} {o x : Ob}
theorem ba_eta (b : ByteArray) : (⟨b.data.toList.toArray⟩ : ByteArray) = b := by
  cases b
  simp
theorem rdy_le (g : ByteArray) : rdy cl g ≤ cl.length := cntP_le
end
end Go.Proofs.YtcbnmoghjhljbaaGreat
end
section
namespace Go.Proofs.YtcbnmoghjhljbaaGreat
open Go.RowKit Go.Proofs.Mem
open Go.Maps (Keyed string_keyed)
open Go.WideMaps (keyOf_string_mk)
set_option linter.unusedVariables false
set_option linter.unusedSimpArgs false
end Go.Proofs.YtcbnmoghjhljbaaGreat
end
section
namespace Go.Proofs.YtcbnmoghjhljbaaGreat
open Go.RowKit Go.Proofs.Mem
set_option linter.unusedVariables false
set_option linter.unusedSimpArgs false
section
variable {cl cl' : List Ob} {mu : Nat → Nat} {G : List (List UInt8)} {s : List UInt8} {i : Nat}
end
end Go.Proofs.YtcbnmoghjhljbaaGreat
end
section
namespace Go.Proofs.YtcbnmoghjhljbaaGreat
open Go.RowKit Go.Proofs.Mem
set_option linter.unusedVariables false
set_option linter.unusedSimpArgs false
theorem q_loadgd {P : Program} {ops : Array Oper} {w0 : World} {Q : Act → Prop} {a : Act} {o : Oper} {rest : List Oper} {g : Nat} {t : TypeId} {cs : Array Value} (hk : Bk w0 g t cs) (hw : Region.wanted o (yielded ops a.tmps) = true) (ty : TypeId) (x : Operand) (ho : o.op = .load ty x)
    (hx : a.eval x = .pointer (some ⟨g, 0, none⟩)) (d : TypeDesc) (hu : P.underlying ty = some d) (hd : d.isRow = true) (hi : (P.info? ty).map (·.size) = some cs.size)
    (h : wpQuiet P ops (fun w' => ∃ p : Regrown, w' = «Sort».grow (redrawn w0 p.d) p.os) Q rest (a.put o.dst (.agg cs))) : wpQuiet P ops (fun w' => ∃ p : Regrown, w' = «Sort».grow (redrawn w0 p.d) p.os) Q (o :: rest) a := by
  refine wpQuiet_step fun K hK => ?_
  rw [if_pos hw]
  refine ⟨.agg cs, fun w' hC => ?_, hK _ h⟩
  obtain ⟨p, rfl⟩ := hC
  have hr := run_loadAt_mid (P := P) («Sort».grow (redrawn w0 p.d) p.os) g 0 ty cs.toList d (hk.regrown p.d p.os).range hu hd (by simpa using hi)
  unfold Oper.quietAt execOp
  simp only [ho, hx, Sem.run_bind, hr, Result.andThen_ok, Sem.run_pure]
  exact ⟨rfl, by simp⟩
end Go.Proofs.YtcbnmoghjhljbaaGreat
end
section
namespace Go.Proofs.YtcbnmoghjhljbaaGreat
open Go.RowKit Go.Proofs.Mem
set_option linter.unusedVariables false
set_option linter.unusedSimpArgs false
def PG (p b : Nat) (ev : Value) (G : Nat → Prop) (j : Nat) : Prop := PS p b ev j ∨ G j
def SG (G : Nat → Prop) (B : Nat) (w : World) (p b : Nat) (most : Int) (evs : List Ev) (cl : List Ob) : Prop :=
  ∃ n D ev, StIs w p b n D most evs.length ev evs ∧ SRel D (PG p b ev G) w cl ∧ (∀ j, G j → j < w.heap.size) ∧ B ≤ b ∧ n ≤ evs.length ∧ cl.length ≤ evs.length ∧ ∀ x ∈ cl, errO x = 0
section
variable {G : Nat → Prop} {B : Nat} {w w' : World} {p b : Nat} {most : Int} {evs : List Ev} {cl cl' : List Ob}
theorem SRel.less {D : DataW Value} {F F' : Nat → Prop} (R : SRel D F w cl) (h : ∀ j, F' j → F j) : SRel D F' w cl where
  size := R.size
  at1 := fun x hx => by
    obtain ⟨h1, y, h2, h3, h4⟩ := R.at1 x hx
    exact ⟨h1, y, h2, safe_less h3 h, h4⟩
  at0 := R.at0
  ok := R.ok
  uniq := R.uniq
theorem SG.s8 (M : SG G B w p b most evs cl) : S8 B w p b most evs cl := by
  obtain ⟨n, D, ev, st, R, hG, h⟩ := M
  exact ⟨n, D, ev, st, R.less fun j h => .inl h, h⟩
theorem SG.below (M : SG G B w p b most evs cl) (hb : Below w.heap.size w w') : SG G B w' p b most evs cl := by
  obtain ⟨n, D, ev, st, R, hG, h⟩ := M
  exact ⟨n, D, ev, st.below hb, R.tch (Tch.of_below hb) fun _ _ h => h, fun j hj => Nat.lt_of_lt_of_le (hG j hj) hb.size, h⟩
theorem SG.congr (M : SG G B w p b most evs cl) (h : cl'.map nf = cl.map nf) : SG G B w p b most evs cl' := by
  obtain ⟨n, D, ev, st, R, hG, hlow, hn, hcl, hgood⟩ := M
  refine ⟨n, D, ev, st, R.congr h, hG, hlow, hn, ?_, fun x hx => ?_⟩
  · have := congrArg List.length h
    simp only [List.length_map] at this
    omega
  · obtain ⟨z, hz, e⟩ := nf_at h hx
    rw [errO_nf e]
    exact hgood z hz
def UpG (G : Nat → Prop) (B : Nat) (w : World) (p b : Nat) (most : Int) (evs : List Ev) (cl : List Ob) (o : Ob) (e : Ending) (w' : World) : Prop :=
  (errO o.dflt ≠ 0 ∧ e = .returned (.tuple #[.int .u64 0, .int .i64 (errO o.dflt)]) ∧ Below w.heap.size w w') ∨
  (errO o.dflt = 0 ∧ findN o.kind o.name cl = none ∧ e = .returned (.tuple #[.int .u64 0, .int .i64 7]) ∧ Below w.heap.size w w') ∨
  (errO o.dflt = 0 ∧ (∃ (i : Nat) (hi : i < cl.length), findN o.kind o.name cl = some i ∧ cl[i].version ≠ o.version) ∧ e = .returned (.tuple #[.int .u64 0, .int .i64 9]) ∧ Below w.heap.size w w') ∨
  (errO o.dflt = 0 ∧ ∃ (i : Nat) (hi : i < cl.length), findN o.kind o.name cl = some i ∧ cl[i].version = o.version ∧ e = .returned (.tuple #[.int .u64 ((evs.length + 1 : Nat) : Int), .int .i64 0]) ∧ SG G B w' p b most (evs ++ [⟨1, o.kind, o.name, evs.length + 1⟩]) (cl.set i (mkV o (evs.length + 1))) ∧ Below B w w' ∧ ∀ n₀ G, KeepU n₀ p b G w w')
theorem sg_update {G : Nat → Prop} (M : SG G B w p b most evs cl) (hlen : evs.length ≤ 500) (hB : B ≤ w.heap.size) (o : Ob) (ho : o.Ok w) :
    Calls Tryz.prog 35 #[.pointer (some ⟨p, 0, none⟩), .agg o.cells.toArray] w (UpG G B w p b most evs cl o) := by
  obtain ⟨n, D, ev, st, R, hG, hlow, hn, hcl, hgood⟩ := M
  have hk : KeyOk (o.kind, o.name) := Ob.Ok.keyOk ho
  obtain ⟨Lw, vw, hLw, hvw2, hval, hnone, hsome⟩ := R.look (o.kind, o.name) hk
  have hvo := version_nat ho.fit
  refine (supdate_any st (by unfold maxLen; omega) (by omega) (by omega) o ho Lw hLw vw hvw2 hval).mono fun e w' h => ?_
  unfold UpG
  by_cases hg : errO o.dflt = 0
  · rw [if_pos hg] at h
    obtain ⟨L', w5, hL', b5, hc⟩ := h
    unfold UpdateSt at hc
    cases hf : findN o.kind o.name cl with
    | none =>
      rw [if_pos (hnone hf)] at hc
      exact .inr (.inl ⟨hg, rfl, hc.1, below_tr b5 hc.2⟩)
    | some i =>
      obtain ⟨hh, hi, hvi⟩ := hsome i hf
      obtain ⟨_, hki, hni⟩ := findN_some hf
      rw [hh] at hc
      simp only [Bool.true_eq_false, if_false] at hc
      by_cases hv : vw = o.version.toNat
      · rw [if_pos hv] at hc
        obtain ⟨ev', he, st', ht, hE⟩ := hc
        rw [next_lt _ hlen] at st'
        obtain ⟨V, hLV, hnw⟩ := hL'
        have hT := tch_ps b5 ht
        have hE' := evTo_from b5 hE
        have hto := ps_to (p := p) (b := b) hE'
        have hD := (st.below b5).2.2.1
        have hpw := st.2.1.lt
        have hbw := st.2.2.1.lt
        have hnw' : o.dflt.News w' (w.heap.size + 1) V := News.t3 hnw (by omega) (by omega) (fun g hg => by have := (st.evGe hg).2; omega) ht
        have hFn : ∀ i, PG p b ev' G i → i < w.heap.size + 1 ∨ w5.heap.size ≤ i := by
          rintro i ((rfl | rfl | hi) | hg9)
          · exact .inl (by omega)
          · exact .inl (by omega)
          · rcases hE with e | ⟨g, hg2, e⟩
            · have := (st.evGe (e ▸ hi)).2
              exact .inl (by omega)
            · rw [e] at hi
              injection hi with hi
              exact .inr (by omega)
          · have := hG i hg9
            exact .inl (by omega)
        have hT2 : Tch (PG p b ev G) w w' := hT.mono fun i _ hi => .inl hi
        have hto2 : ∀ i, i < w.heap.size → PG p b ev' G i → PG p b ev G i := fun i hi h => h.elim (fun h => .inl (hto i hi h)) .inr
        have hks : keys (cl.set i (mkV o (evs.length + 1))) = keys cl := keys_set hi (by rw [hki, hni]; rfl)
        refine .inr (.inr (.inr ⟨hg, i, hi, rfl, by rw [hvi, hv, ← hvo], he, ⟨n + 1, _, ev', by rw [List.length_append]; exact st', ?_, fun j hj => Nat.lt_of_lt_of_le (hG j hj) hT.size, hlow, by rw [List.length_append]; simp; omega, by rw [List.length_append, List.length_set]; omega, fun x hx => (List.mem_or_eq_of_mem_set hx).elim (hgood x) fun h => by rw [h]; exact err_mkV hg⟩, hT.low hB fun i hi => ps_low st hlow hi, fun n₀ G => KeepU.of_tch hT hE' st.cells.2.1 st.cells.2.2.2 st'.cells.2.1 st'.cells.2.2.2⟩))
        exact {
          size := by rw [Maps.size_put (st.2.2.1.tidy stK), hh, List.length_set, R.size]; simp
          at1 := fun z hz => by
            by_cases hze : (z.kind, z.name) = (o.kind, o.name)
            · have hzz : z = mkV o (evs.length + 1) := by
                obtain ⟨j, hj, rfl⟩ := List.getElem_of_mem hz
                rw [List.getElem_set]
                split
                · rfl
                · rename_i hij
                  exfalso
                  rw [List.getElem_set, if_neg hij] at hze
                  have hj' : j < cl.length := by simpa using hj
                  exact hij (key_inj R.uniq hi hj' (by rw [hki, hni]; exact hze.symm))
              rw [hzz]
              exact stands_put hD ho.fit hnw hnw' hFn (wf_now (by omega)) L' hLV
            · have hz2 : z ∈ cl := (List.mem_or_eq_of_mem_set hz).elim id fun h => absurd (by rw [h]; rfl) hze
              have hk2 := kOf_ne (R.ok _ (mem_keys hz2)) hk hze
              obtain ⟨h1, y, h2, h3, h4⟩ := R.at1 z hz2
              exact ⟨(Maps.has_put_other hk2 _).trans h1, y, (valAt_put_other hk2 _ _).trans h2, h3.tch hT2 hto2, h4⟩
          at0 := fun k hk' h0 => by
            rw [hks] at h0
            have hne : k ≠ (o.kind, o.name) := fun e => h0 (by rw [e, ← hki, ← hni]; exact mem_keys (List.getElem_mem hi))
            rw [Maps.has_put_other (kOf_ne hk' hk hne)]
            exact R.at0 k hk' h0
          ok := by rw [hks]; exact R.ok
          uniq := by rw [hks]; exact R.uniq }
      · rw [if_neg hv] at hc
        exact .inr (.inr (.inl ⟨hg, ⟨i, hi, rfl, fun e => hv (by rw [hvi] at e; omega)⟩, hc.1, below_tr b5 hc.2⟩))
  · rw [if_neg hg] at h
    exact .inl ⟨hg, h⟩
theorem mkV_ev {now : Int} {y : Ob} {i : Nat} {hi : i < cl.length} {name : ByteArray} {v : Nat} (h : nf y = nf cl[i]) (hf : findN 1 name cl = some i) : nf (mkV (evOb now cl[i]) v) = nf (mkV (evOb now y) v) := by
  have hk : cl[i].kind = 1 := (findN_some hf).2.1
  have hk2 : y.kind = 1 := (nf_key h).1.trans hk
  have e1 : (evOb now cl[i]).dflt = evOb now cl[i] := dflt_pod hk
  have e2 : (evOb now y).dflt = evOb now y := dflt_pod hk2
  have e : ∀ o : Ob, nf ⟨(evOb now o).kind, (evOb now o).name, (v : Int), (evOb now o).w, (evOb now o).p, (evOb now o).n, (evOb now o).g, (evOb now o).h⟩ = ⟨(nf (evOb now o)).kind, (nf (evOb now o)).name, (v : Int), (nf (evOb now o)).w, (nf (evOb now o)).p, (nf (evOb now o)).n, (nf (evOb now o)).g, (nf (evOb now o)).h⟩ := fun o => rfl
  unfold mkV
  rw [e1, e2, e, e, evOb_nf now h]
end
def EvG (G : Nat → Prop) (B : Nat) (w : World) (p b : Nat) (most : Int) (evs : List Ev) (cl : List Ob) (name : ByteArray) (now : Int) (e : Ending) (w' : World) : Prop :=
  (findN 1 name cl = none ∧ e = .returned (.int .i64 7) ∧ Below w.heap.size w w') ∨
  (∃ (i : Nat) (hi : i < cl.length), findN 1 name cl = some i ∧ (decide (cl[i].p.phase = 1) || decide (cl[i].p.phase = 2)) = false ∧ e = .returned (.int .i64 12) ∧ Below w.heap.size w w') ∨
  (∃ (i : Nat) (hi : i < cl.length), findN 1 name cl = some i ∧ (decide (cl[i].p.phase = 1) || decide (cl[i].p.phase = 2)) = true ∧ e = .returned (.int .i64 0) ∧ SG G B w' p b most (evs ++ [⟨1, 1, name, evs.length + 1⟩]) (cl.set i (mkV (evOb now cl[i]) (evs.length + 1))) ∧ Below B w w' ∧ ∀ n₀ G, KeepU n₀ p b G w w')
set_option maxHeartbeats 8000000 in
set_option maxRecDepth 100000 in
theorem gevict_any {G : Nat → Prop} {B : Nat} {w : World} {p b : Nat} {most : Int} {evs : List Ev} {cl : List Ob} (M : SG G B w p b most evs cl) (hlen : evs.length ≤ 400) (hB : B ≤ w.heap.size) (name : ByteArray) (hk : KeyOk (1, name)) (now : Int) (hn : 0 ≤ now ∧ now ≤ 4611686018427387904) :
    Calls Tryz.prog 13 #[.pointer (some ⟨p, 0, none⟩), .string name, .int .i64 now] w (EvG G B w p b most evs cl name now) := by
  have HM := Lib.hid (And.intro M (And.intro hlen (And.intro hB (And.intro hk hn))))
  have CR := Lib.hid (sright_any p now w hn)
  have CG := Lib.hid (s8_get M.s8 1 name hk)
  have HU := Lib.hid (Tryz.underlying56)
  have HP := Lib.hid (Tryz.underlying43)
  clear M hlen hB hk hn
  go_enter Tryz.func13, Tryz.ntmps13
  go_wp2_with fail
  refine CR.out.mono ?_
  rintro e w' ⟨rfl, rfl⟩
  go_wp2_with fail
  refine CG.out.mono ?_
  rintro e W1 ⟨y, rfl, hys, b1, hy0, hy1⟩
  have h47' := cells_is y hys.1
  obtain ⟨L, hL⟩ : ∃ L : Array Value, L = y.cells.toArray := ⟨_, rfl⟩
  rw [← hL] at h47' ⊢
  have h47 := Lib.hid h47'
  have hzz : Z47.size = L.size := h47'.1.symm
  have kz := Bk.new W1 56 Z47
  have k7 := setCells_whole kz hzz
  have b7 : Below W1.heap.size W1 ((W1.alloc (.cells Z47 56)).setCells W1.heap.size 0 L.toList) := below_setCells (g := W1.heap.size) L.toList 0 (below_al W1 _) (Nat.le_refl _)
  obtain ⟨W2, hW2⟩ : ∃ W2, W2 = (W1.alloc (.cells Z47 56)).setCells W1.heap.size 0 L.toList := ⟨_, rfl⟩
  rw [← hW2] at b7 k7
  have HKZ := Lib.hid (And.intro kz hzz)
  have H2 := Lib.hid (And.intro (And.intro k7 hL) (And.intro b1 (And.intro b7 (And.intro hys (And.intro hy0 hy1)))))
  have HW2 := Lib.hid hW2.symm
  clear k7 b1 b7 hys hy0 hy1 hW2 CR CG hL h47' kz hzz
  cases hf : findN 1 name cl with
  | none =>
    have HF := Lib.hid hf
    simp only [Option.isSome_none]
    clear hf
    go_wp2_with (first | (refine wpl_allocg rfl (run_alloc47 rfl _) ?_) | (refine wpl_storeg HKZ.out.1 HKZ.out.2 rfl rfl 56 (.tmp 7) (.tmp 19) rfl rfl rfl (info47 h47.out) h47.out.2 ?_; rw [HW2.out]))
    go_ret
    exact .inl ⟨HF.out, rfl, below_tr H2.out.2.1 H2.out.2.2.1⟩
  | some i =>
    obtain ⟨hi, hynf⟩ := H2.out.2.2.2.2.2 i hf
    have hnp : (nf y).p = (nf cl[i]).p := by rw [hynf]
    have hph : y.p.phase = cl[i].p.phase := (congrArg Pd.phase hnp : (nf y).p.phase = (nf cl[i]).p.phase)
    have hk7 : Bk W2 W1.heap.size 56 y.cells.toArray := by rw [← H2.out.1.2]; exact H2.out.1.1
    obtain ⟨r, hr⟩ : ∃ r, r = W1.heap.size := ⟨_, rfl⟩
    have rp : W2.rangeAt W1.heap.size 10 y.p.cells := range_sub hk7.range 10 10
    have HF := Lib.hid (And.intro hf (And.intro hynf (And.intro hph (And.intro hk7 hr))))
    have HRP := Lib.hid rp
    have CO := Lib.hid (son_any y.p W2)
    simp only [Option.isSome_some]
    clear hf hynf hnp hph hk7 hr rp
    go_wp2_with (first | (refine wpl_allocg rfl (run_alloc47 rfl _) ?_) | (refine wpl_storeg HKZ.out.1 HKZ.out.2 rfl rfl 56 (.tmp 7) (.tmp 19) rfl rfl rfl (info47 h47.out) h47.out.2 ?_; rw [HW2.out]) | (refine wpl_loadat HRP.out rfl 43 (.tmp 25) rfl rfl _ HP.out rfl (by kernel_rfl) ?_))
    refine CO.out.mono ?_
    rintro e W3 ⟨rfl, b3⟩
    cases hon : (decide (y.p.phase = 1) || decide (y.p.phase = 2)) with
    | false =>
      have HON := Lib.hid (And.intro hon b3)
      clear hon b3 CO
      go_wp2_with fail
      go_ret
      exact .inr (.inl ⟨i, hi, HF.out.1, by rw [← HF.out.2.2.1]; exact HON.out.1, rfl, below_tr H2.out.2.1 (below_tr H2.out.2.2.1 HON.out.2)⟩)
    | true =>
      have HON := Lib.hid (And.intro hon b3)
      have k3 := HF.out.2.2.2.1.below' b3
      rw [← HF.out.2.2.2.2] at k3
      have c11 : W3.cell? ⟨r, 11, none⟩ = some (.string y.p.node) := k3.cell 11
      have f11 := k3.frozen 11
      have k4 := k3.set 11 (.string ⟨#[]⟩)
      obtain ⟨u1, hu1⟩ : ∃ u1, u1 = W3.setCell ⟨r, 11, none⟩ (.string ⟨#[]⟩) := ⟨_, rfl⟩
      rw [← hu1] at k4
      have c12 : u1.cell? ⟨r, 12, none⟩ = some (.int .i64 y.p.phase) := (k4.cell 12).trans (by kernel_rfl)
      have f12 := k4.frozen 12
      have k5 := k4.set 12 (.int .i64 0)
      obtain ⟨u2, hu2⟩ : ∃ u2, u2 = u1.setCell ⟨r, 12, none⟩ (.int .i64 0) := ⟨_, rfl⟩
      rw [← hu2] at k5
      have c13 : u2.cell? ⟨r, 13, none⟩ = some (.int .i64 y.p.since) := (k5.cell 13).trans (by kernel_rfl)
      have f13 := k5.frozen 13
      have k6 := k5.set 13 (.int .i64 now)
      obtain ⟨u3, hu3⟩ : ∃ u3, u3 = u2.setCell ⟨r, 13, none⟩ (.int .i64 now) := ⟨_, rfl⟩
      rw [← hu3] at k6
      obtain ⟨y9, hy9⟩ : ∃ y9, y9 = evOb now y := ⟨_, rfl⟩
      have k9 : Bk u3 r 56 y9.cells.toArray := by
        rw [hy9]
        exact k6
      have hT3 : Tch (fun j => j = r) W3 u3 := by
        have s1 : ∀ (u : World) (o : Nat) (v : Value), Tch (fun j => j = r) u (u.setCell ⟨r, o, none⟩ v) := fun u o v => ⟨rfl, rfl, rfl, by simp [World.setCell], fun j _ hj => Below.heap_setCell u ⟨r, o, none⟩ v j hj⟩
        rw [hu3, hu2, hu1]
        exact ((s1 _ _ _).trans (s1 _ _ _) fun _ _ h => h).trans (s1 _ _ _) fun _ _ h => h
      have hrw : w.heap.size ≤ r := by rw [HF.out.2.2.2.2]; exact H2.out.2.1.size
      have bw3 := below_tr H2.out.2.1 (below_tr H2.out.2.2.1 b3)
      have bwu : Below w.heap.size w u3 := bw3.trans (hT3.low bw3.size fun j hj => by have h1 : j = r := hj; omega)
      have oky : y.Ok u3 := (Ob.Safe.tch (F' := fun _ => False) (safe_less (safe_old H2.out.2.2.2.1.ok (below_tr H2.out.2.2.1 b3)) (fun j (hj : j = r) => by rw [hj, HF.out.2.2.2.2]; exact Nat.le_refl _)) hT3 fun _ _ h => h.elim).ok
      have hnw : wfi .i64 now := by
        have h1 : IntKind.i64.min = -9223372036854775808 := rfl
        have h2 : IntKind.i64.max = 9223372036854775807 := rfl
        have h3 := HM.out.2.2.2.2
        unfold wfi Lit.wf
        rw [Bool.and_eq_true, decide_eq_true_eq, decide_eq_true_eq]
        omega
      have ok9 : y9.Ok u3 := by
        rw [hy9]
        exact ⟨oky.kind, oky.name, oky.version, oky.w, ⟨oky.p.owner, (zero_ok u3).p.node, (zero_ok u3).p.phase, hnw, oky.p.cpu, oky.p.mem, oky.p.labels, oky.p.select, oky.p.tolerate, oky.p.warm⟩, oky.n, oky.g, oky.h⟩
      have CU := Lib.hid (sg_update (HM.out.1.below bwu) (by have := HM.out.2.1; omega) (by have := HM.out.2.2.1; have := bwu.size; omega) y9 ok9)
      have H9 := Lib.hid (And.intro k9.range (And.intro bwu hy9))
      have HU1 := Lib.hid hu1.symm
      have HU2 := Lib.hid hu2.symm
      have HU3 := Lib.hid hu3.symm
      rw [← HF.out.2.2.2.2]
      rw [hu1] at c12 f12
      rw [hu2, hu1] at c13 f13
      have hall : u3 = ((W3.setCell ⟨r, 11, none⟩ (.string ⟨#[]⟩)).setCell ⟨r, 12, none⟩ (.int .i64 0)).setCell ⟨r, 13, none⟩ (.int .i64 now) := by rw [hu3, hu2, hu1]
      have HALL := Lib.hid hall.symm
      clear hon b3 CO k3 k4 k5 k6 k9 hT3 hrw bw3 bwu oky hnw ok9 hu1 hu2 hu3 hy9 hall HU1 HU2 HU3
      go_wp2_with (rw [HALL.out]; refine wpl_loadat H9.out.1 rfl 56 (.tmp 7) rfl rfl _ HU.out rfl (by kernel_rfl) ?_)
      refine CU.out.mono ?_
      rintro e W9 hUp
      have hky : y.kind = 1 := (nf_key HF.out.2.1).1.trans (findN_some HF.out.1).2.1
      have hny : y.name = name := (nf_key HF.out.2.1).2.trans (findN_some HF.out.1).2.2
      have hk9 : y9.kind = 1 := by rw [H9.out.2.2]; exact hky
      have hn9 : y9.name = name := by rw [H9.out.2.2]; exact hny
      have hgood : errO cl[i] = 0 := by
        obtain ⟨_, _, _, _, _, _, _, _, h⟩ := HM.out.1.s8
        exact h _ (List.getElem_mem hi)
      have hki : cl[i].kind = 1 := (findN_some HF.out.1).2.1
      have herr : errO y9.dflt = 0 := by
        rw [dflt_pod hk9, H9.out.2.2, errO_nf (evOb_nf now HF.out.2.1)]
        exact ev_err HM.out.2.2.2.2 hki hgood
      have hfi : findN y9.kind y9.name cl = some i := by
        rw [hk9, hn9]
        exact HF.out.1
      have hver : y9.version = cl[i].version := by
        rw [H9.out.2.2]
        show y.version = _
        exact nf_ver HF.out.2.1
      rcases hUp with ⟨h1, _⟩ | ⟨_, h1, _⟩ | ⟨_, ⟨j, hj, h1, h2⟩, _⟩ | ⟨_, j, hj, h1, h2, rfl, hS, hBel, hKeep⟩
      · exact absurd herr h1
      · rw [hfi] at h1; cases h1
      · rw [hfi] at h1
        injection h1 with h1
        subst h1
        exact absurd hver.symm h2
      rw [hfi] at h1
      injection h1 with h1
      subst h1
      have HE := Lib.hid (And.intro hS (And.intro hBel (And.intro hKeep (And.intro hk9 hn9))))
      clear hS hBel hKeep hk9 hn9 herr hfi hver hky hny hgood hki h2 c11 f11 c12 f12 c13 f13 CU
      go_wp2_with fail
      go_ret
      have hS9 := HE.out.1
      rw [HE.out.2.2.2.1, HE.out.2.2.2.2] at hS9
      refine .inr (.inr ⟨i, hi, HF.out.1, by rw [← HF.out.2.2.1]; exact HON.out.1, rfl, hS9.congr ?_, (H9.out.2.1.mono HM.out.2.2.1).trans HE.out.2.1, fun n₀ G => (KeepU.of_below H9.out.2.1).trans (HE.out.2.2.1 n₀ G)⟩)
      rw [List.map_set, List.map_set]
      congr 1
      rw [H9.out.2.2]
      exact mkV_ev HF.out.2.1 HF.out.1
end Go.Proofs.YtcbnmoghjhljbaaGreat
end
section
namespace Go.Proofs.YtcbnmoghjhljbaaGreat
open Go.RowKit Go.Proofs.Mem
open Go.Maps (Keyed string_keyed)
open Go.WideMaps (keyOf_string_mk)
set_option linter.unusedVariables false
set_option linter.unusedSimpArgs false
theorem zeroBud (w : World) : (zeroValue 24).run Tryz.prog w = .ok (.agg #[.int .i64 0, .int .i64 0, .bool false]) w := by kernel_rfl
theorem op_store_map {P : Program} {w : World} {o : Oper} {a : Act} {K : Act → World → Prop} {Q : Exit → Act → World → Prop} (m x v : Operand) (t : TypeId) (hop : o.op = Op.mapUpdate t m x v)
    (k e : TypeId) (K' : Keyed P k) (ht : P.underlying t = some (.map k e)) (b n : Nat) (D : DataW Value)
    (hm : a.eval m = .map (some b)) (hown : Mp P w k b n D) (hn : n < maxLen) (key val : Value) (kl : Lit) (hx : a.eval x = key) (hv : a.eval v = val) (hkey : keyOf P k key = some kl)
    (hK : ∀ w', Mp P w' k b (n + 1) (D.put kl (.held val)) → w.grownBy w' (some b) → w'.heap.size = w.heap.size → K (a.put o.dst undef) w') :
    o.wp P a w K Q := by
  obtain ⟨w', hrun, r1, r2⟩ := World.ownsMap.store hown K' ht hn hkey (val := val) (d := .held val) (ps := []) rfl
  have r3 := r2.grown
  have r4 : w'.heap.size = w.heap.size := by
    obtain ⟨es, clock, es', clock', hb, rfl⟩ := r2
    simp [ChangeMaps.setBlock]
  unfold Oper.wp
  simp [execOp, hop, hm, hx, hv, hrun, Result.andThen]
  exact hK w' r1 r3 r4
def Kpr (w : World) (kp km n : Nat) (D : DataW Value) : Prop := Bk w kp 105 #[.map (some km)] ∧ Mp Tryz.prog w 9 km n D
theorem Kpr.below {w w' : World} {kp km n : Nat} {D : DataW Value} (h : Kpr w kp km n D) (hb : Below w.heap.size w w') : Kpr w' kp km n D := ⟨h.1.below' hb, h.2.below hb⟩
def BudOk (D : DataW Value) : Prop := ∀ s : List UInt8, ∃ (k v : Nat) (pc : Bool), valAt D (.string s) (.agg #[.int .i64 0, .int .i64 0, .bool false]) = .agg #[.int .i64 k, .int .i64 v, .bool pc] ∧ okB k v pc = true
theorem knew_any (w : World) : Calls Tryz.prog 14 #[] w fun e w' => ∃ kp km, e = .returned (.pointer (some ⟨kp, 0, none⟩)) ∧ Kpr w' kp km 0 (.map []) ∧ w.heap.size ≤ km ∧ km < kp ∧ Below w.heap.size w w' := by
  have hmm := @run_makeMap Tryz.prog
  go_enter Tryz.func14, Tryz.ntmps14
  go_wp2_with fail
  go_ret
  have m1 := Mp.made w Tryz.prog 9
  refine ⟨_, w.heap.size, rfl, ⟨?_, m1.alloc _⟩, Nat.le_refl _, by simp, below_tr (below_al _ _) (below_al _ _)⟩
  have h := Bk.new (w.alloc (.map #[] 0)) 105 #[.map (some w.heap.size)]
  rw [World.size_alloc] at h
  exact h
theorem klen_any {w : World} {kp km n : Nat} {D : DataW Value} (M : Kpr w kp km n D) : Calls Tryz.prog 19 #[.pointer (some ⟨kp, 0, none⟩)] w fun e w' => e = .returned (.int .i64 (Maps.size D)) ∧ w' = w := by
  have c0 := M.1.cell 0
  have hm := M.2
  go_enter Tryz.func19, Tryz.ntmps19
  go_wp2_with (refine wpl_len_map rfl _ 66 rfl 9 24 Tryz.underlying66 km n D rfl hm ?_)
  go_ret
  exact ⟨rfl, rfl⟩
def KSet (w : World) (kp km n : Nat) (D : DataW Value) (s : List UInt8) (k v : Int) (pc : Bool) (e : Ending) (w' : World) : Prop :=
  (nmB ⟨s.toArray⟩ = false ∧ e = .returned (.int .i64 6) ∧ Below w.heap.size w w') ∨
  (nmB ⟨s.toArray⟩ = true ∧ okB k v pc = false ∧ e = .returned (.int .i64 1) ∧ Below w.heap.size w w') ∨
  (nmB ⟨s.toArray⟩ = true ∧ okB k v pc = true ∧ e = .returned (.int .i64 0) ∧ Kpr w' kp km (n + 1) (D.put (.string s) (.held (.agg #[.int .i64 k, .int .i64 v, .bool pc]))) ∧ Tch (fun j => j = km) w w')
set_option maxHeartbeats 4000000 in
set_option maxRecDepth 100000 in
theorem kset_any {w : World} {kp km n : Nat} {D : DataW Value} (M : Kpr w kp km n D) (hn : n < maxLen) (hkm : km ≠ kp) (s : List UInt8) (hs : s.length ≤ maxLen) (k v : Int) (pc : Bool) :
    Calls Tryz.prog 16 #[.pointer (some ⟨kp, 0, none⟩), .string ⟨s.toArray⟩, .agg #[.int .i64 k, .int .i64 v, .bool pc]] w (KSet w kp km n D s k v pc) := by
  have kb := Bk.new w 24 #[.int .i64 k, .int .i64 v, .bool pc]
  have B0 := below_al w (.cells #[.int .i64 k, .int .i64 v, .bool pc] 24)
  obtain ⟨W0, hW0⟩ : ∃ W0, W0 = w.alloc (.cells #[.int .i64 k, .int .i64 v, .bool pc] 24) := ⟨_, rfl⟩
  rw [← hW0] at kb B0
  have CL := Lib.hid (lname_any ⟨s.toArray⟩ W0 hs)
  have hkey := keyOf_string_mk Tryz.underlying9 (s := ⟨s.toArray⟩) hs
  have H0 := Lib.hid (And.intro kb (And.intro B0 (And.intro (M.below B0) (And.intro hn (And.intro hkm hkey)))))
  have CF := Lib.hid (fun (w1 : World) (h : okB k v pc = false) => check_f k v pc w1 h)
  have CT := Lib.hid (fun (w1 : World) (h : okB k v pc = true) => check_t k v pc w1 h)
  have HW := Lib.hid hW0.symm
  clear kb B0 M hs hn hkm hkey hW0
  go_enter Tryz.func16, Tryz.ntmps16
  go_wp2_with fail
  rw [HW.out]
  refine CL.out.mono ?_
  rintro e w' ⟨rfl, rfl⟩
  cases hnm : nmB ⟨s.toArray⟩ with
  | false =>
    have HN := Lib.hid hnm
    clear hnm
    go_wp2_with fail
    go_ret
    exact .inl ⟨HN.out, rfl, H0.out.2.1⟩
  | true =>
    have HN := Lib.hid hnm
    clear hnm
    cases hb : okB k v pc with
    | false =>
      have HB := Lib.hid hb
      clear hb
      go_wp2_with ((with_reducible refine at_load_ ?_); refine wpl_loadg H0.out.1 rfl 24 (.tmp 5) rfl rfl _ Tryz.underlying24 rfl (by kernel_rfl) ?_)
      refine (CF.out _ HB.out).mono ?_
      rintro e w2 ⟨rfl, b2⟩
      have H2 := Lib.hid (below_tr H0.out.2.1 b2)
      clear b2
      go_wp2_with fail
      go_ret
      exact .inr (.inl ⟨HN.out, HB.out, rfl, H2.out⟩)
    | true =>
      have HB := Lib.hid hb
      clear hb
      go_wp2_with ((with_reducible refine at_load_ ?_); refine wpl_loadg H0.out.1 rfl 24 (.tmp 5) rfl rfl _ Tryz.underlying24 rfl (by kernel_rfl) ?_)
      refine (CT.out _ HB.out).mono ?_
      rintro e w2 ⟨rfl, b2⟩
      have M2 := H0.out.2.2.1.below b2
      have kb2 := H0.out.1.below' b2
      have c0 := cell_regrown (M2.1.cell 0)
      have d0 := cell_regrown (kb2.cell 0)
      have d1 := cell_regrown (kb2.cell 1)
      have d2 := cell_regrown (kb2.cell 2)
      have H2 := Lib.hid (And.intro M2 (below_tr H0.out.2.1 b2))
      have HK2 := Lib.hid kb2
      clear b2 M2 kb2
      go_wp2_with fail
      refine wp_region_quiet_last (List.dropLast_concat_getLast (by simp)).symm (by kernel_rfl) (by kernel_rfl) (by rfl) ?_
      simp only [stillLast, still, List.getLast_cons_cons, List.getLast_singleton]
      repeat (go_big_quiet_step (fail))
      refine wpQuiet_nil ?_
      rintro _ ⟨rp, rfl⟩
      have hBz := below_regrown w2 rp.d rp.os
      generalize «Sort».grow (redrawn w2 rp.d) rp.os = w3 at hBz ⊢
      have M3 := H2.out.1.below hBz
      have B3 := below_tr H2.out.2 hBz
      have hp3 := H0.out.2.2.1.1.lt
      refine op_store_map _ _ _ 66 rfl 9 24 strKb Tryz.underlying66 km n D rfl M3.2 H0.out.2.2.2.1 _ (.agg #[.int .i64 k, .int .i64 v, .bool pc]) _ rfl rfl H0.out.2.2.2.2.2 ?_
      intro w4 hM4 hg4 hs4
      have K4 : Bk w4 kp 105 #[.map (some km)] := (hg4.block kp M3.1.lt (fun e => by injection e with e; exact H0.out.2.2.2.2.1 e.symm)).trans M3.1
      have T4 : Tch (fun j => j = km) w w4 := ⟨hg4.os.trans B3.os, hg4.tape.trans B3.tape, hg4.output.trans B3.output, Nat.le_trans B3.size hg4.size, fun i hi hj => (hg4.block i (Nat.lt_of_lt_of_le hi B3.size) (fun e => by injection e with e; exact hj e)).trans (B3.block i hi)⟩
      have HE := Lib.hid (And.intro hM4 (And.intro K4 T4))
      clear hBz M3 B3 hp3 hM4 hg4 hs4 K4 T4 c0 d0 d1 d2
      go_wp2_with fail
      go_ret
      exact .inr (.inr ⟨HN.out, HB.out, rfl, ⟨HE.out.2.1, HE.out.1⟩, HE.out.2.2⟩)
def KRem (w : World) (kp km n : Nat) (D : DataW Value) (s : List UInt8) (e : Ending) (w' : World) : Prop :=
  (Maps.has D (.string s) = false ∧ e = .returned (.int .i64 7) ∧ Below w.heap.size w w') ∨
  (Maps.has D (.string s) = true ∧ e = .returned (.int .i64 0) ∧ Kpr w' kp km n (D.del (.string s)) ∧ Tch (fun j => j = km) w w')
set_option maxHeartbeats 4000000 in
set_option maxRecDepth 100000 in
theorem kremove_any {w : World} {kp km n : Nat} {D : DataW Value} (M : Kpr w kp km n D) (hkm : km ≠ kp) (hD : BudOk D) (s : List UInt8) (hs : s.length ≤ maxLen) :
    Calls Tryz.prog 17 #[.pointer (some ⟨kp, 0, none⟩), .string ⟨s.toArray⟩] w (KRem w kp km n D s) := by
  obtain ⟨k, v, pc, hval, _⟩ := hD s
  have hkey := keyOf_string_mk Tryz.underlying9 (s := ⟨s.toArray⟩) hs
  have hm := M.2
  have c0 := M.1.cell 0
  have B1 := below_al w (.cells #[.int .i64 k, .int .i64 v, .bool pc] 24)
  have hm1 := hm.alloc (.cells #[.int .i64 k, .int .i64 v, .bool pc] 24)
  have k1 := M.1.alloc (.cells #[.int .i64 k, .int .i64 v, .bool pc] 24)
  have c1 := k1.cell 0
  have H1 := Lib.hid (And.intro B1 (And.intro k1 hkm))
  clear B1 k1 hkm hD hs
  cases hh : Maps.has D (.string s) with
  | false =>
    have HH := Lib.hid hh
    go_enter Tryz.func17, Tryz.ntmps17
    go_wp2_with (at_lookup; refine wpl_look_ok rfl _ _ 66 rfl 9 24 strKb Tryz.underlying66 zeroBud km n D rfl hm _ _ rfl hkey ?_; rw [hval, hh])
    go_ret
    exact .inl ⟨HH.out, rfl, H1.out.1⟩
  | true =>
    have HH := Lib.hid hh
    go_enter Tryz.func17, Tryz.ntmps17
    go_wp2_with (first | (at_lookup; refine wpl_look_ok rfl _ _ 66 rfl 9 24 strKb Tryz.underlying66 zeroBud km n D rfl hm _ _ rfl hkey ?_; rw [hval, hh]) | (at_delete; refine wpl_delete_map rfl _ _ 66 9 rfl 24 strKb Tryz.underlying66 km n D rfl hm1 _ _ rfl hkey ?_; intro w3 hm3 hg3 hs3n; have hs3 := Lib.hid hs3n; clear hs3n))
    go_ret
    have B1 := H1.out.1
    refine .inr ⟨HH.out, rfl, ⟨(hg3.block kp H1.out.2.1.lt (fun e => by injection e with e; exact H1.out.2.2 e.symm)).trans H1.out.2.1, hm3⟩, ⟨hg3.os.trans B1.os, hg3.tape.trans B1.tape, hg3.output.trans B1.output, Nat.le_trans B1.size hg3.size, fun i hi hj => (hg3.block i (Nat.lt_of_lt_of_le hi B1.size) (fun e => by injection e with e; exact hj e)).trans (B1.block i hi)⟩⟩
theorem knone_set (s : ByteArray) (k v : Int) (pc : Bool) (w : World) : Calls Tryz.prog 16 #[.pointer none, .string s, .agg #[.int .i64 k, .int .i64 v, .bool pc]] w fun e w' => e = .returned (.int .i64 1) ∧ Below w.heap.size w w' := by
  have HB := Lib.hid (below_al w (.cells #[.int .i64 k, .int .i64 v, .bool pc] 24))
  go_enter Tryz.func16, Tryz.ntmps16
  go_wp2_with fail
  go_ret
  exact ⟨rfl, HB.out⟩
theorem knone_remove (s : ByteArray) (w : World) : Calls Tryz.prog 17 #[.pointer none, .string s] w fun e w' => e = .returned (.int .i64 1) ∧ w = w' := by
  go_enter Tryz.func17, Tryz.ntmps17
  go_wp2_with fail
  go_ret
  exact ⟨rfl, rfl⟩
theorem knone_len (w : World) : Calls Tryz.prog 19 #[.pointer none] w fun e w' => e = .returned (.int .i64 0) ∧ w = w' := by
  go_enter Tryz.func19, Tryz.ntmps19
  go_wp2_with fail
  go_ret
  exact ⟨rfl, rfl⟩
theorem knone_evict (p : Value) (s : ByteArray) (now : Int) (w : World) : Calls Tryz.prog 18 #[.pointer none, p, .string s, .int .i64 now] w fun e w' => e = .returned (.int .i64 1) ∧ w = w' := by
  go_enter Tryz.func18, Tryz.ntmps18
  go_wp2_with fail
  go_ret
  exact ⟨rfl, rfl⟩
theorem sright_bad (p : Nat) (now : Int) (w : World) (hn : now < 0 ∨ 4611686018427387904 < now) : Calls Tryz.prog 33 #[.pointer (some ⟨p, 0, none⟩), .int .i64 now] w fun e w' => e = .returned (.bool false) ∧ w = w' := by
  rcases hn with h | h
  · have h2 : ¬ 4611686018427387904 < now := by omega
    have h3 : ¬ 0 ≤ now := by omega
    go_enter Tryz.func33, Tryz.ntmps33
    go_wp2_with fail
    go_ret
    exact ⟨rfl, rfl⟩
  · have h2 : ¬ now < 0 := by omega
    have h3 : 0 ≤ now := by omega
    have h4 : ¬ now ≤ 4611686018427387904 := by omega
    go_enter Tryz.func33, Tryz.ntmps33
    go_wp2_with fail
    go_ret
    exact ⟨rfl, rfl⟩
theorem evict_bad (p : Nat) (name : ByteArray) (now : Int) (w : World) (hn : now < 0 ∨ 4611686018427387904 < now) : Calls Tryz.prog 13 #[.pointer (some ⟨p, 0, none⟩), .string name, .int .i64 now] w fun e w' => e = .returned (.int .i64 1) ∧ w = w' := by
  have CR := Lib.hid (sright_bad p now w hn)
  clear hn
  go_enter Tryz.func13, Tryz.ntmps13
  go_wp2_with fail
  refine CR.out.mono ?_
  rintro e w' ⟨rfl, rfl⟩
  go_wp2_with fail
  go_ret
  exact ⟨rfl, rfl⟩
theorem kevict_bad (kp p : Nat) (name : ByteArray) (now : Int) (w : World) (hn : now < 0 ∨ 4611686018427387904 < now) : Calls Tryz.prog 18 #[.pointer (some ⟨kp, 0, none⟩), .pointer (some ⟨p, 0, none⟩), .string name, .int .i64 now] w fun e w' => e = .returned (.int .i64 1) ∧ w = w' := by
  rcases hn with h | h
  · go_enter Tryz.func18, Tryz.ntmps18
    go_wp2_with fail
    go_ret
    exact ⟨rfl, rfl⟩
  · have h2 : ¬ now < 0 := by omega
    go_enter Tryz.func18, Tryz.ntmps18
    go_wp2_with fail
    go_ret
    exact ⟨rfl, rfl⟩
end Go.Proofs.YtcbnmoghjhljbaaGreat
end
