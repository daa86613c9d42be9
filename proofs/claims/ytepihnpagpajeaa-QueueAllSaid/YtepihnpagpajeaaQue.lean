/-
  The walks of package queue: the first of those that wait, where all do.
-/
import Derived.Test.YtepihnpagpajeaaMaps
import Derived.Test.YtepihnpagpajeaaIter
import Derived.Test.YtepihnpagpajeaaLName
import Derived.StringKeys
import Derived.Deep.QuietTactic
import Derived.BigQuiet
namespace Go.Proofs.Ytepihnpagpajeaa
open Go.RowKit Go.Proofs.Mem
open Go.Maps (Keyed string_keyed)
open Go.WideMaps (keyOf_string_mk)
set_option linter.unusedVariables false
set_option linter.unusedSimpArgs false
theorem strKq : Keyed Try.prog 9 := string_keyed Try.underlying9
theorem zeroItm (w : World) : (zeroValue 153).run Try.prog w = .ok (.agg #[.int .i64 0, .bool false, .bool false]) w := by kernel_rfl
/-- An item as it lies in the map. -/
def itV (at' : Int) (hand again : Bool) : Value := .agg #[.int .i64 at', .bool hand, .bool again]
def zI : Value := .agg #[.int .i64 0, .bool false, .bool false]
/-- All that is there waits, until the tick that atf says. -/
def AllWait (D : DataW Value) (atf : List UInt8 → Int) : Prop := ∀ k, Maps.has D (.string k) = true → valAt D (.string k) zI = itV (atf k) false false
def FirstIs (D : DataW Value) (atf : List UInt8 → Int) (w : World) (e : Ending) (w' : World) : Prop :=
  (((∀ k, Maps.has D (.string k) = false) ∧ e = .returned (.tuple #[.string ⟨#[]⟩, .bool false])) ∨
    ∃ k, Maps.has D (.string k) = true ∧ k.length ≤ maxLen ∧ (∀ k', Maps.has D (.string k') = true → atf k ≤ atf k') ∧ e = .returned (.tuple #[.string ⟨k.toArray⟩, .bool true])) ∧ Below w.heap.size w w'
/-- The best so far. -/
def BestIs (l : List (List UInt8)) (atf : List UInt8 → Int) (j : Nat) (v4 v5 : Value) : Prop :=
  (j = 0 ∧ v4 = .string ⟨#[]⟩ ∧ v5 = .bool false) ∨ ∃ k ∈ l.take j, (∀ k' ∈ l.take j, atf k ≤ atf k') ∧ v4 = .string ⟨k.toArray⟩ ∧ v5 = .bool true
theorem best_step {l : List (List UInt8)} {atf : List UInt8 → Int} {j : Nat} {x k : List UInt8} (hx : l[j]? = some x) (hk : k ∈ l.take j) (hall : ∀ k' ∈ l.take j, atf k ≤ atf k') :
    (atf x < atf k → BestIs l atf (j + 1) (.string ⟨x.toArray⟩) (.bool true)) ∧ (atf k ≤ atf x → BestIs l atf (j + 1) (.string ⟨k.toArray⟩) (.bool true)) := by
  have e : l.take (j + 1) = l.take j ++ [x] := by rw [List.take_add_one, hx]; rfl
  constructor
  · intro h
    refine .inr ⟨x, by rw [e]; simp, fun k' hk' => ?_, rfl, rfl⟩
    rw [e, List.mem_append] at hk'
    rcases hk' with hk' | hk'
    · have := hall k' hk'; omega
    · simp at hk'; subst hk'; omega
  · intro h
    refine .inr ⟨k, by rw [e]; simp [hk], fun k' hk' => ?_, rfl, rfl⟩
    rw [e, List.mem_append] at hk'
    rcases hk' with hk' | hk'
    · exact hall k' hk'
    · simp at hk'; subst hk'; omega
/-- An item's tick, read off the whole item. -/
theorem itm_at (w : World) (r : Int) (x y : Bool) : (Instr.field 153 (.agg #[.int .i64 r, .bool x, .bool y]) 0).run Try.prog w = .ok (.int .i64 r) w := by kernel_rfl
theorem best_zero {l : List (List UInt8)} {atf : List UInt8 → Int} {x : List UInt8} (hx : l[0]? = some x) : BestIs l atf 1 (.string ⟨x.toArray⟩) (.bool true) := by
  have e : l.take 1 = [x] := by cases l with | nil => simp at hx | cons a r => simp at hx; simp [hx]
  refine .inr ⟨x, by rw [e]; simp, fun k' hk' => ?_, rfl, rfl⟩
  rw [e] at hk'
  simp at hk'
  subst hk'
  omega
theorem first_any (w : World) (q b f n : Nat) (c0 c1 c2 : Value) (D : DataW Value) (atf : List UInt8 → Int) (hk : Bk w q 157 #[c0, c1, c2, .map (some b), .map (some f)]) (hm : Mp Try.prog w 9 b n D) (hw : AllWait D atf) (hs : Maps.size D ≤ 1000) :
    Calls Try.prog 59 #[.pointer (some ⟨q, 0, none⟩)] w (FirstIs D atf w) := by
  have CK := Lib.hid (fun w1 => callsIn_wide.1 (Try.maps_Keys_86 (some b) w1))
  have CS := Lib.hid (callsIn_wide.1 (Try.slices_Sorted_keys_53_86 b n D asIs w hm (by unfold maxLen; omega) (by omega)))
  have d3 := hk.cell 3
  have hW := Lib.hid hw
  have hM := Lib.hid hm
  have hK := Lib.hid hk
  have hZ := Lib.hid hs
  clear hw hm hk hs
  go_enter Try.func59, Try.ntmps59
  go_wp2_with fail
  refine (CK.out _).mono ?_
  rintro e w' ⟨rfl, rfl⟩
  go_wp2_with fail
  refine CS.out.mono ?_
  rintro e w1 ⟨v, ss, rfl, hperm, hrow, hnil, hb⟩
  have HP := Lib.hid hperm
  have HN := Lib.hid hnil
  clear hperm hnil
  have hbl : (w.alloc (.cells #[.map (some b)] 154)).heap.size = w.heap.size + 1 := World.size_alloc _ _
  have HB := Lib.hid (((Below.refl w.heap.size w).alloc (Nat.le_refl _) (.cells #[.map (some b)] 154)).trans (hb.mono (by rw [hbl]; omega)))
  clear hb hbl
  have HQ1 := Lib.hid (hK.out.below' HB.out)
  have HM1 := Lib.hid (hM.out.below HB.out)
  have HSl := Lib.hid (Sl.of_own hrow)
  obtain ⟨l, hl⟩ : ∃ l, l = ss.mergeSort (fun x y => decide (x ≤ y)) := ⟨_, rfl⟩
  rw [← hl] at HSl hrow
  have hll : ss.length = l.length := by rw [hl, List.length_mergeSort]
  have HL : Hid (∀ x, x ∈ l ↔ Maps.has D (.string x) = true) := Lib.hid (fun x => by
    rw [hl, List.mem_mergeSort, HP.out.mem_iff]
    exact hM.out.mem_keys strKq Try.underlying9 x)
  have HLe : Hid (∀ x ∈ l, x.length ≤ maxLen) := Lib.hid (fun x hx => by
    rw [hl, List.mem_mergeSort, HP.out.mem_iff] at hx
    exact strKeys_le hM.out Try.underlying9 x hx)
  have hmx : l.length ≤ 1000 := by
    have := hM.out.len_keys
    have h2 := HP.out.length_eq
    have h3 := hZ.out
    omega
  clear hl HP
  rw [hll] at HSl hrow
  clear hll
  have hrow2 := hrow.2
  clear hrow
  rcases hrow2 with ⟨rfl, hemp⟩ | ⟨g, cap, cur, rfl, hbase, hblk, h1, h2, h3, h4⟩
  · have hl0 : l = [] := by simpa using hemp
    subst hl0
    clear hemp
    go_wp2_with fail
    refine wp_loop_rounds 1 ?_
    rw [rounds_succ]
    go_wp2_with fail
    go_ret2
    refine ⟨.inl ⟨fun k => ?_, rfl⟩, HB.out⟩
    cases h : Maps.has D (.string k)
    · rfl
    · have := (HL.out k).2 h; cases this
  · clear hbase hblk h1 h2 h3 h4 HN
    go_wp2_with fail
    go_loopw [4, 5, 16] (fun v4 v5 v16 wr => ∃ j : Nat, j ≤ l.length ∧ v16 = .int .i64 j ∧ BestIs l atf j v4 v5 ∧ Below w1.heap.size w1 wr) (fun _ _ i _ => l.length - (intOf i).toNat)
    case atStart => exact ⟨0, Nat.zero_le _, rfl, .inl ⟨rfl, rfl, rfl⟩, Below.refl _ _⟩
    case round =>
      obtain ⟨j, hj, rfl, hbest, hB⟩ := hrel
      by_cases hlt : j < l.length
      · obtain ⟨x, hx⟩ : ∃ x, l[j]? = some x := ⟨l[j], by simp [hlt]⟩
        have hmem : x ∈ l := List.mem_of_getElem? hx
        have hhas := (HL.out x).1 hmem
        have hval := hW.out x hhas
        have hkey : keyOf Try.prog 9 (.string ⟨x.toArray⟩) = some (.string x) := keyOf_string_mk Try.underlying9 (s := ⟨x.toArray⟩) (by have := HLe.out x hmem; exact this)
        obtain ⟨ad, e1, hadl, hc⟩ := (HSl.out.below hB).cell1 (k := j) (u := .string ⟨x.toArray⟩) (by rw [List.getElem?_map, hx]; rfl)
        injection e1 with e1
        subst e1
        rw [add_lit, Nat.zero_add] at hc
        have hm' := HM1.out.below hB
        have d3' := (HQ1.out.below' hB).cell 3
        rcases hbest with ⟨rfl, rfl, rfl⟩ | ⟨k, hkm, hall, rfl, rfl⟩
        · have HBest := Lib.hid (best_zero (atf := atf) hx)
          clear hmem hhas hx hadl
          go_wp2_with (at_lookup; refine wpl_look rfl _ _ 154 rfl 9 153 strKq Try.underlying154 zeroItm b n D rfl hm' _ _ rfl hkey ?_; rw [show Value.agg #[.int .i64 0, .bool false, .bool false] = zI from rfl, hval]; unfold itV)
          have kx := Bk.new wr 153 #[.int .i64 (atf x), .bool false, .bool false]
          have hB2 := hB.trans (((Below.refl wr.heap.size wr).alloc (Nat.le_refl _) (.cells #[.int .i64 (atf x), .bool false, .bool false] 153)).mono hB.size)
          have x0 := kx.cell 0
          have x1 := kx.cell 1
          have HB2 := Lib.hid hB2
          generalize wr.alloc (.cells #[.int .i64 (atf x), .bool false, .bool false] 153) = w2 at x0 x1 HB2 ⊢
          clear kx hB2 hB hc hkey hval hm' d3'
          go_quiet (fail)
          go_wp2_with fail
          go_roundw
          case rel => exact ⟨1, by omega, by go_num, HBest.out, below_drewN HB2.out _⟩
          case measure => simp [intOf]; omega
        · have HBest := Lib.hid (best_step (atf := atf) hx hkm hall)
          have hkl : k ∈ l := List.mem_of_mem_take hkm
          have hkh := (HL.out k).1 hkl
          have hkv := hW.out k hkh
          have hkk : keyOf Try.prog 9 (.string ⟨k.toArray⟩) = some (.string k) := keyOf_string_mk Try.underlying9 (s := ⟨k.toArray⟩) (by have := HLe.out k hkl; exact this)
          clear hmem hhas hx hadl hkm hall hkl hkh
          go_wp2_with (at_lookup; refine wpl_look rfl _ _ 154 rfl 9 153 strKq Try.underlying154 zeroItm b n D rfl hm' _ _ rfl hkey ?_; rw [show Value.agg #[.int .i64 0, .bool false, .bool false] = zI from rfl, hval]; unfold itV)
          have kx := Bk.new wr 153 #[.int .i64 (atf x), .bool false, .bool false]
          have hB2 := hB.trans (((Below.refl wr.heap.size wr).alloc (Nat.le_refl _) (.cells #[.int .i64 (atf x), .bool false, .bool false] 153)).mono hB.size)
          have hm2 := hm'.alloc (.cells #[.int .i64 (atf x), .bool false, .bool false] 153)
          have hq2 := ((HQ1.out.below' hB).alloc (.cells #[.int .i64 (atf x), .bool false, .bool false] 153)).cell 3
          have x0 := kx.cell 0
          have x1 := kx.cell 1
          have HB2 := Lib.hid hB2
          generalize wr.alloc (.cells #[.int .i64 (atf x), .bool false, .bool false] 153) = w2 at x0 x1 HB2 hm2 hq2 ⊢
          have hlk : ∀ nq, (Instr.lookup 154 (.map (some b)) (.string ⟨k.toArray⟩) false).run Try.prog (w2.drewN nq) = .ok (.agg #[.int .i64 (atf k), .bool false, .bool false]) (w2.drewN nq) := fun nq => by
            rw [(hm2.drewN nq).run_look strKq Try.underlying154 (zeroItm _) hkk]
            exact congrArg (fun v => Result.ok v _) hkv
          clear kx hB2 hB hc hkey hval hm' d3' hm2 hkk hkv
          have hfd := fun (w0 : World) => itm_at w0 (atf k) false false
          rcases Int.lt_or_le (atf x) (atf k) with hpr | hpr
          · have hd : decide (atf x < atf k) = true := decide_eq_true hpr
            have HBe := Lib.hid (HBest.out.1 hpr)
            clear HBest
            generalize atf x = p at *
            generalize atf k = r at *
            go_quiet (fail)
            go_wp2_with fail
            go_roundw
            case rel => exact ⟨j + 1, by omega, by go_num, HBe.out, below_drewN HB2.out _⟩
            case measure => simp [intOf]; omega
          · have hd : decide (atf x < atf k) = false := decide_eq_false (by omega)
            have HBe := Lib.hid (HBest.out.2 hpr)
            clear HBest
            generalize atf x = p at *
            generalize atf k = r at *
            go_quiet (fail)
            go_wp2_with fail
            go_roundw
            case rel => exact ⟨j + 1, by omega, by go_num, HBe.out, below_drewN HB2.out _⟩
            case measure => simp [intOf]; omega
      · have hjl : j = l.length := by omega
        subst hjl
        rcases hbest with ⟨h0, rfl, rfl⟩ | ⟨k, hkm, hall, rfl, rfl⟩
        · have hl0 : l = [] := List.eq_nil_of_length_eq_zero h0
          have HL0 := Lib.hid hl0
          clear h0 hl0
          go_wp2_with fail
          go_ret2
          refine ⟨.inl ⟨fun k => ?_, rfl⟩, HB.out.trans (hB.mono HB.out.size)⟩
          cases h : Maps.has D (.string k)
          · rfl
          · have := (HL.out k).2 h; rw [HL0.out] at this; cases this
        · rw [List.take_length] at hkm hall
          have HA := Lib.hid (And.intro hkm hall)
          clear hkm hall
          go_wp2_with fail
          go_ret2
          exact ⟨.inr ⟨k, (HL.out k).1 HA.out.1, HLe.out k HA.out.1, fun k' hk' => HA.out.2 k' ((HL.out k').2 hk'), rfl⟩, HB.out.trans (hB.mono HB.out.size)⟩
end Go.Proofs.Ytepihnpagpajeaa
